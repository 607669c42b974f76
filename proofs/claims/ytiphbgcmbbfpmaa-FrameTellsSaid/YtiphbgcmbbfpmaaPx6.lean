-- Written by myprint.py, a program of this session's, over the kit's print.py; not a text of print.sh's own.
import Derived.Test.YtiphbgcmbbfpmaaHandBox
import Derived.Test.YtiphbgcmbbfpmaaHandFive
import Derived.Test.YtiphbgcmbbfpmaaPx0
import Derived.Test.YtiphbgcmbbfpmaaPx1
import Derived.Test.YtiphbgcmbbfpmaaPx2
import Derived.Test.YtiphbgcmbbfpmaaPx4
import Derived.Test.YtiphbgcmbbfpmaaPx5
namespace Go.Proofs.Ytiphbgcmbbfpmaa.Px
open Go.RowKit Go.Proofs.YtiphbgcmbbfpmaaW.PrintWords Go.Proofs.YtiphbgcmbbfpmaaW.PrintLast Go.Proofs.YtiphbgcmbbfpmaaW.PrintMore
attribute [local go_sem] max2_int min2_int max_two min_two max_three min_three max_four min_four   -- for this text's walks alone
set_option linter.unusedVariables false
set_option linter.unusedSimpArgs false

/-! ### phaetonlaw04_head: function 10 -/
def phaetonlaw04_head.f (k : Nat)  : Option (Bool) := (phaetonlaw04_One.f).bind fun bt124 => ((frame_Head.f bt124.1 bt124.2.1 bt124.2.2.1 bt124.2.2.2.1 bt124.2.2.2.2).bind fun t131 => ((some (([] : List Int) : List Int)).bind fun y134 => (if y134.length + t131.length < 17592186044416 then ((some (y134 ++ t131 : List Int)).bind fun y137 => ((some (([1, 1] : List Int) : List Int)).bind fun y140 => (if y137.length + y140.length < 17592186044416 then ((frame_Read.f (y137 ++ y140)).bind fun bt146 => (if 0 ≤ (mn (t131.length : Int) 20) then (if (mn (t131.length : Int) 20) ≤ (t131.length : Int) then ((frame_Read.f (t131.take ((mn (t131.length : Int) 20) : Int).toNat)).bind fun bt160 => ((frame_Read.f (([1] : List Int))).bind fun bt173 => (if (t131.length : Int) = 27 then (if 19 ≤ (t131.length : Int) then ((phaetonref01_Same.f k (t131.take 19) (([0, 0, 0, 0, 0, 0, 0, 0, 0, 0, 0, 1, 0, 0, 0, 0, 0, 0, 1] : List Int))).bind fun t191 => (if t191 = true then ((phaetonlaw04_One.f).bind fun bt192 => ((phaetonref04_Same.f bt146.1 bt146.2.1 bt146.2.2.1 bt146.2.2.2.1 bt146.2.2.2.2.1 bt192.1 bt192.2.1 bt192.2.2.1 bt192.2.2.2.1 bt192.2.2.2.2).bind fun t199 => (if t199 = true then (if bt146.2.2.2.2.2.1 = 27 then (if bt146.2.2.2.2.2.2 = 0 then (if bt160.2.2.2.2.2.2 = 40 then (if bt173.2.2.2.2.2.2 = 42 then ((frame_Rank.f true 262144 true 3 ([] : List Int)).bind fun t200 => (if (t200.length : Int) = 32 then ((frame_Head.f true 262144 true 3 ([] : List Int)).bind fun t203 => (if (t203.length : Int) = 39 then ((frame_Right.f true 262144 true 3 ([] : List Int)).bind fun t206 => (if t206 = true then ((frame_Right.f false 0 false 1 ([] : List Int)).bind fun t207 => (if t207 = true then (none) else ((frame_Same.f true 262144 true 3 ([] : List Int) true 262144 true 3 ([] : List Int)).bind fun t208 => (if t208 = true then ((phaetonlaw04_One.f).bind fun bt209 => ((frame_Same.f true 262144 true 3 ([] : List Int) bt209.1 bt209.2.1 bt209.2.2.1 bt209.2.2.2.1 bt209.2.2.2.2).bind fun t216 => (if t216 = true then (none) else (some true)))) else (none))))) else (none))) else (none))) else (none))) else (none)) else (none)) else (none)) else (none)) else (none)))) else (none))) else (none)) else (none)))) else (none)) else (none))) else (none)))) else (none))))
theorem phaetonlaw04_head.mono : ∀ k, LeO (phaetonlaw04_head.f k ) (phaetonlaw04_head.f (k + 1) ) := by
 intro  k
 unfold phaetonlaw04_head.f
 repeat' first
   | (with_reducible exact phaetonref01_Same.mono _ _ _)
   | (with_reducible exact LeO.refl _)
   | (with_reducible exact LeO.none _)
   | (with_reducible refine LeO.ite ?_ ?_)
   | (with_reducible refine LeO.bind ?_ (fun _ => ?_))
   | exact phaetonref01_Same.mono _ _ _
   | exact LeO.none _
   | refine LeO.ite ?_ ?_
   | refine LeO.bind ?_ (fun _ => ?_)
def phaetonlaw04_head.T6 : Bool × List (List Nat × List Nat) := (true, [([], []), ([0], [0]), ([1], [1]), ([2], [2]), ([3], [3]), ([4, 3], [3, 4]), ([3], [3]), ([5, 6, 3, 3], [3, 5, 6]), ([3, 7], [3, 7]), ([8, 7], [8]), ([9], [9]), ([9, 9], [9]), ([10, 11, 11, 9], [9, 10, 11]), ([9, 12], [9, 12]), ([13, 12], [13]), ([14], [14]), ([15, 14], [14, 15]), ([14, 16], [14, 16]), ([17, 14], [17]), ([18], [18]), ([19, 18], [18, 19]), ([18, 20], [18, 20]), ([21, 18], [21]), ([22], [22]), ([23, 22], [22, 23]), ([22, 24], [22, 24]), ([25, 22], [25]), ([26], [26]), ([27, 26], [26, 27]), ([26, 28], [26, 28]), ([29, 26], [29]), ([30], [30]), ([31, 30, 30], [30, 31]), ([32, 30], [30, 32]), ([33, 30], [30, 33]), ([30, 34], [30, 34]), ([35, 32], [35]), ([36], [36]), ([37, 36, 36], [36, 37]), ([38, 36], [36, 38]), ([39, 36], [36, 39]), ([36, 40], [36, 40]), ([41, 38], [41]), ([42], [42]), ([43, 42, 42], [42, 43]), ([42, 44], [42, 44]), ([45, 44], [45]), ([46], [46]), ([47, 46, 46], [46, 47]), ([48, 46], [46, 48]), ([46, 49], [46, 49]), ([50, 48], [50]), ([51], [51]), ([51], [51]), ([52, 53, 51, 51], [51, 52, 53]), ([51, 54], [51, 54]), ([55, 54], [55]), ([56], [56]), ([56, 56], [56]), ([57, 58, 58, 56], [56, 57, 58]), ([59, 56], [56, 59]), ([56, 60], [56, 60]), ([61, 59, 0, 1, 2, 3, 4, 5, 6, 7, 8, 9, 10, 11, 12, 13, 14, 15, 16, 17, 18, 19, 20, 21, 22, 23, 24, 25, 26, 27, 28, 29, 30, 31, 32, 33, 34, 35, 36, 37, 38, 39, 40, 41, 42, 43, 44, 45, 46, 47, 48, 49, 50, 51, 52, 53, 54, 55, 56, 57, 58, 59, 60, 61], [61])])
def phaetonlaw04_head.B6 : List Nat := [0, 1, 3, 7, 15, 31, 15, 127, 255, 511, 1023, 1023, 4095, 8191, 16383, 32767, 65535, 131071, 262143, 524287, 1048575, 2097151, 4194303, 8388607, 16777215, 33554431, 67108863, 134217727, 268435455, 536870911, 1073741823, 2147483647, 4294967295, 8589934591, 17179869183, 34359738367, 68719476735, 137438953471, 274877906943, 549755813887, 1099511627775, 2199023255551, 4398046511103, 8796093022207, 17592186044415, 35184372088831, 70368744177663, 140737488355327, 281474976710655, 562949953421311, 1125899906842623, 2251799813685247, 4503599627370495, 4503599627370495, 18014398509481983, 36028797018963967, 72057594037927935, 144115188075855871, 144115188075855871, 576460752303423487, 1152921504606846975, 2305843009213693951, 4611686018427387903]
theorem phaetonlaw04_head.tab6 : rtab .any (opsOf Try.f10 6) = phaetonlaw04_head.T6 := by kernel_rfl
theorem phaetonlaw04_head.bits6 : waitsOk phaetonlaw04_head.T6.2 phaetonlaw04_head.B6 = true := by kernel_rfl
set_option maxHeartbeats 8000000 in
set_option maxRecDepth 100000 in
theorem phaetonlaw04_head.calls (k : Nat)  (r : Bool) (w : World) (h : phaetonlaw04_head.f k  = some r) :
  Calls Try.prog 10 #[] w fun e w' => e = .returned (.bool r) ∧ Below w.heap.size w w' := by
 have hu24 := Try.underlying24
 have HB := Aside0.mk (Below.refl w.heap.size w)
 have H : ((phaetonlaw04_One.f).bind fun bt124 => ((frame_Head.f bt124.1 bt124.2.1 bt124.2.2.1 bt124.2.2.2.1 bt124.2.2.2.2).bind fun t131 => ((some (([] : List Int) : List Int)).bind fun y134 => (if y134.length + t131.length < 17592186044416 then ((some (y134 ++ t131 : List Int)).bind fun y137 => ((some (([1, 1] : List Int) : List Int)).bind fun y140 => (if y137.length + y140.length < 17592186044416 then ((frame_Read.f (y137 ++ y140)).bind fun bt146 => (if 0 ≤ (mn (t131.length : Int) 20) then (if (mn (t131.length : Int) 20) ≤ (t131.length : Int) then ((frame_Read.f (t131.take ((mn (t131.length : Int) 20) : Int).toNat)).bind fun bt160 => ((frame_Read.f (([1] : List Int))).bind fun bt173 => (if (t131.length : Int) = 27 then (if 19 ≤ (t131.length : Int) then ((phaetonref01_Same.f k (t131.take 19) (([0, 0, 0, 0, 0, 0, 0, 0, 0, 0, 0, 1, 0, 0, 0, 0, 0, 0, 1] : List Int))).bind fun t191 => (if t191 = true then ((phaetonlaw04_One.f).bind fun bt192 => ((phaetonref04_Same.f bt146.1 bt146.2.1 bt146.2.2.1 bt146.2.2.2.1 bt146.2.2.2.2.1 bt192.1 bt192.2.1 bt192.2.2.1 bt192.2.2.2.1 bt192.2.2.2.2).bind fun t199 => (if t199 = true then (if bt146.2.2.2.2.2.1 = 27 then (if bt146.2.2.2.2.2.2 = 0 then (if bt160.2.2.2.2.2.2 = 40 then (if bt173.2.2.2.2.2.2 = 42 then ((frame_Rank.f true 262144 true 3 ([] : List Int)).bind fun t200 => (if (t200.length : Int) = 32 then ((frame_Head.f true 262144 true 3 ([] : List Int)).bind fun t203 => (if (t203.length : Int) = 39 then ((frame_Right.f true 262144 true 3 ([] : List Int)).bind fun t206 => (if t206 = true then ((frame_Right.f false 0 false 1 ([] : List Int)).bind fun t207 => (if t207 = true then (none) else ((frame_Same.f true 262144 true 3 ([] : List Int) true 262144 true 3 ([] : List Int)).bind fun t208 => (if t208 = true then ((phaetonlaw04_One.f).bind fun bt209 => ((frame_Same.f true 262144 true 3 ([] : List Int) bt209.1 bt209.2.1 bt209.2.2.1 bt209.2.2.2.1 bt209.2.2.2.2).bind fun t216 => (if t216 = true then (none) else (some true)))) else (none))))) else (none))) else (none))) else (none))) else (none)) else (none)) else (none)) else (none)) else (none)))) else (none))) else (none)) else (none)))) else (none)) else (none))) else (none)))) else (none))))) = some r := h
 clear h
 replace H := Option.bind_eq_some_iff.mp H
 obtain ⟨⟨t124, t125, t126, t127, t128⟩, A10, H⟩ := H
 replace H : ((frame_Head.f t124 t125 t126 t127 t128).bind fun t131 => ((some (([] : List Int) : List Int)).bind fun y134 => (if y134.length + t131.length < 17592186044416 then ((some (y134 ++ t131 : List Int)).bind fun y137 => ((some (([1, 1] : List Int) : List Int)).bind fun y140 => (if y137.length + y140.length < 17592186044416 then ((frame_Read.f (y137 ++ y140)).bind fun bt146 => (if 0 ≤ (mn (t131.length : Int) 20) then (if (mn (t131.length : Int) 20) ≤ (t131.length : Int) then ((frame_Read.f (t131.take ((mn (t131.length : Int) 20) : Int).toNat)).bind fun bt160 => ((frame_Read.f (([1] : List Int))).bind fun bt173 => (if (t131.length : Int) = 27 then (if 19 ≤ (t131.length : Int) then ((phaetonref01_Same.f k (t131.take 19) (([0, 0, 0, 0, 0, 0, 0, 0, 0, 0, 0, 1, 0, 0, 0, 0, 0, 0, 1] : List Int))).bind fun t191 => (if t191 = true then ((phaetonlaw04_One.f).bind fun bt192 => ((phaetonref04_Same.f bt146.1 bt146.2.1 bt146.2.2.1 bt146.2.2.2.1 bt146.2.2.2.2.1 bt192.1 bt192.2.1 bt192.2.2.1 bt192.2.2.2.1 bt192.2.2.2.2).bind fun t199 => (if t199 = true then (if bt146.2.2.2.2.2.1 = 27 then (if bt146.2.2.2.2.2.2 = 0 then (if bt160.2.2.2.2.2.2 = 40 then (if bt173.2.2.2.2.2.2 = 42 then ((frame_Rank.f true 262144 true 3 ([] : List Int)).bind fun t200 => (if (t200.length : Int) = 32 then ((frame_Head.f true 262144 true 3 ([] : List Int)).bind fun t203 => (if (t203.length : Int) = 39 then ((frame_Right.f true 262144 true 3 ([] : List Int)).bind fun t206 => (if t206 = true then ((frame_Right.f false 0 false 1 ([] : List Int)).bind fun t207 => (if t207 = true then (none) else ((frame_Same.f true 262144 true 3 ([] : List Int) true 262144 true 3 ([] : List Int)).bind fun t208 => (if t208 = true then ((phaetonlaw04_One.f).bind fun bt209 => ((frame_Same.f true 262144 true 3 ([] : List Int) bt209.1 bt209.2.1 bt209.2.2.1 bt209.2.2.2.1 bt209.2.2.2.2).bind fun t216 => (if t216 = true then (none) else (some true)))) else (none))))) else (none))) else (none))) else (none))) else (none)) else (none)) else (none)) else (none)) else (none)))) else (none))) else (none)) else (none)))) else (none)) else (none))) else (none)))) else (none)))) = some r := H
 have A1 := Aside0.mk A10
 clear A10
 replace H := Option.bind_eq_some_iff.mp H
 obtain ⟨t131, A20, H⟩ := H
 replace H : ((some (([] : List Int) : List Int)).bind fun y134 => (if y134.length + t131.length < 17592186044416 then ((some (y134 ++ t131 : List Int)).bind fun y137 => ((some (([1, 1] : List Int) : List Int)).bind fun y140 => (if y137.length + y140.length < 17592186044416 then ((frame_Read.f (y137 ++ y140)).bind fun bt146 => (if 0 ≤ (mn (t131.length : Int) 20) then (if (mn (t131.length : Int) 20) ≤ (t131.length : Int) then ((frame_Read.f (t131.take ((mn (t131.length : Int) 20) : Int).toNat)).bind fun bt160 => ((frame_Read.f (([1] : List Int))).bind fun bt173 => (if (t131.length : Int) = 27 then (if 19 ≤ (t131.length : Int) then ((phaetonref01_Same.f k (t131.take 19) (([0, 0, 0, 0, 0, 0, 0, 0, 0, 0, 0, 1, 0, 0, 0, 0, 0, 0, 1] : List Int))).bind fun t191 => (if t191 = true then ((phaetonlaw04_One.f).bind fun bt192 => ((phaetonref04_Same.f bt146.1 bt146.2.1 bt146.2.2.1 bt146.2.2.2.1 bt146.2.2.2.2.1 bt192.1 bt192.2.1 bt192.2.2.1 bt192.2.2.2.1 bt192.2.2.2.2).bind fun t199 => (if t199 = true then (if bt146.2.2.2.2.2.1 = 27 then (if bt146.2.2.2.2.2.2 = 0 then (if bt160.2.2.2.2.2.2 = 40 then (if bt173.2.2.2.2.2.2 = 42 then ((frame_Rank.f true 262144 true 3 ([] : List Int)).bind fun t200 => (if (t200.length : Int) = 32 then ((frame_Head.f true 262144 true 3 ([] : List Int)).bind fun t203 => (if (t203.length : Int) = 39 then ((frame_Right.f true 262144 true 3 ([] : List Int)).bind fun t206 => (if t206 = true then ((frame_Right.f false 0 false 1 ([] : List Int)).bind fun t207 => (if t207 = true then (none) else ((frame_Same.f true 262144 true 3 ([] : List Int) true 262144 true 3 ([] : List Int)).bind fun t208 => (if t208 = true then ((phaetonlaw04_One.f).bind fun bt209 => ((frame_Same.f true 262144 true 3 ([] : List Int) bt209.1 bt209.2.1 bt209.2.2.1 bt209.2.2.2.1 bt209.2.2.2.2).bind fun t216 => (if t216 = true then (none) else (some true)))) else (none))))) else (none))) else (none))) else (none))) else (none)) else (none)) else (none)) else (none)) else (none)))) else (none))) else (none)) else (none)))) else (none)) else (none))) else (none)))) else (none))) = some r := H
 have A2 := Aside0.mk A20
 clear A20
 obtain ⟨y134, hy134⟩ : ∃ y_ : List Int, y_ = (([] : List Int)) := ⟨_, rfl⟩
 replace H : (if y134.length + t131.length < 17592186044416 then ((some (y134 ++ t131 : List Int)).bind fun y137 => ((some (([1, 1] : List Int) : List Int)).bind fun y140 => (if y137.length + y140.length < 17592186044416 then ((frame_Read.f (y137 ++ y140)).bind fun bt146 => (if 0 ≤ (mn (t131.length : Int) 20) then (if (mn (t131.length : Int) 20) ≤ (t131.length : Int) then ((frame_Read.f (t131.take ((mn (t131.length : Int) 20) : Int).toNat)).bind fun bt160 => ((frame_Read.f (([1] : List Int))).bind fun bt173 => (if (t131.length : Int) = 27 then (if 19 ≤ (t131.length : Int) then ((phaetonref01_Same.f k (t131.take 19) (([0, 0, 0, 0, 0, 0, 0, 0, 0, 0, 0, 1, 0, 0, 0, 0, 0, 0, 1] : List Int))).bind fun t191 => (if t191 = true then ((phaetonlaw04_One.f).bind fun bt192 => ((phaetonref04_Same.f bt146.1 bt146.2.1 bt146.2.2.1 bt146.2.2.2.1 bt146.2.2.2.2.1 bt192.1 bt192.2.1 bt192.2.2.1 bt192.2.2.2.1 bt192.2.2.2.2).bind fun t199 => (if t199 = true then (if bt146.2.2.2.2.2.1 = 27 then (if bt146.2.2.2.2.2.2 = 0 then (if bt160.2.2.2.2.2.2 = 40 then (if bt173.2.2.2.2.2.2 = 42 then ((frame_Rank.f true 262144 true 3 ([] : List Int)).bind fun t200 => (if (t200.length : Int) = 32 then ((frame_Head.f true 262144 true 3 ([] : List Int)).bind fun t203 => (if (t203.length : Int) = 39 then ((frame_Right.f true 262144 true 3 ([] : List Int)).bind fun t206 => (if t206 = true then ((frame_Right.f false 0 false 1 ([] : List Int)).bind fun t207 => (if t207 = true then (none) else ((frame_Same.f true 262144 true 3 ([] : List Int) true 262144 true 3 ([] : List Int)).bind fun t208 => (if t208 = true then ((phaetonlaw04_One.f).bind fun bt209 => ((frame_Same.f true 262144 true 3 ([] : List Int) bt209.1 bt209.2.1 bt209.2.2.1 bt209.2.2.2.1 bt209.2.2.2.2).bind fun t216 => (if t216 = true then (none) else (some true)))) else (none))))) else (none))) else (none))) else (none))) else (none)) else (none)) else (none)) else (none)) else (none)))) else (none))) else (none)) else (none)))) else (none)) else (none))) else (none)))) else (none)) = some r := by first | (rw [hy134]; with_reducible exact H) | (have H2_ := (Option.bind_some _ _).symm.trans H; rw [hy134]; with_reducible exact H2_) | (have H2_ := (Option.bind_some _ _).symm.trans H; with_reducible exact H2_) | with_reducible exact H | (rw [hy134]; exact H) | exact H
 have Ny134 := Aside0.mk hy134
 clear hy134
 by_cases c3 : y134.length + t131.length < 17592186044416
 ·rw [if_pos c3] at H
  have LMc3 := Aside0.mk c3
  clear c3
  obtain ⟨y137, hy137⟩ : ∃ y_ : List Int, y_ = (y134 ++ t131) := ⟨_, rfl⟩
  replace H : ((some (([1, 1] : List Int) : List Int)).bind fun y140 => (if y137.length + y140.length < 17592186044416 then ((frame_Read.f (y137 ++ y140)).bind fun bt146 => (if 0 ≤ (mn (t131.length : Int) 20) then (if (mn (t131.length : Int) 20) ≤ (t131.length : Int) then ((frame_Read.f (t131.take ((mn (t131.length : Int) 20) : Int).toNat)).bind fun bt160 => ((frame_Read.f (([1] : List Int))).bind fun bt173 => (if (t131.length : Int) = 27 then (if 19 ≤ (t131.length : Int) then ((phaetonref01_Same.f k (t131.take 19) (([0, 0, 0, 0, 0, 0, 0, 0, 0, 0, 0, 1, 0, 0, 0, 0, 0, 0, 1] : List Int))).bind fun t191 => (if t191 = true then ((phaetonlaw04_One.f).bind fun bt192 => ((phaetonref04_Same.f bt146.1 bt146.2.1 bt146.2.2.1 bt146.2.2.2.1 bt146.2.2.2.2.1 bt192.1 bt192.2.1 bt192.2.2.1 bt192.2.2.2.1 bt192.2.2.2.2).bind fun t199 => (if t199 = true then (if bt146.2.2.2.2.2.1 = 27 then (if bt146.2.2.2.2.2.2 = 0 then (if bt160.2.2.2.2.2.2 = 40 then (if bt173.2.2.2.2.2.2 = 42 then ((frame_Rank.f true 262144 true 3 ([] : List Int)).bind fun t200 => (if (t200.length : Int) = 32 then ((frame_Head.f true 262144 true 3 ([] : List Int)).bind fun t203 => (if (t203.length : Int) = 39 then ((frame_Right.f true 262144 true 3 ([] : List Int)).bind fun t206 => (if t206 = true then ((frame_Right.f false 0 false 1 ([] : List Int)).bind fun t207 => (if t207 = true then (none) else ((frame_Same.f true 262144 true 3 ([] : List Int) true 262144 true 3 ([] : List Int)).bind fun t208 => (if t208 = true then ((phaetonlaw04_One.f).bind fun bt209 => ((frame_Same.f true 262144 true 3 ([] : List Int) bt209.1 bt209.2.1 bt209.2.2.1 bt209.2.2.2.1 bt209.2.2.2.2).bind fun t216 => (if t216 = true then (none) else (some true)))) else (none))))) else (none))) else (none))) else (none))) else (none)) else (none)) else (none)) else (none)) else (none)))) else (none))) else (none)) else (none)))) else (none)) else (none))) else (none))) = some r := by first | (rw [hy137]; with_reducible exact H) | (have H2_ := (Option.bind_some _ _).symm.trans H; rw [hy137]; with_reducible exact H2_) | (have H2_ := (Option.bind_some _ _).symm.trans H; with_reducible exact H2_) | with_reducible exact H | (rw [hy137]; exact H) | exact H
  have Ny137 := Aside0.mk hy137
  clear hy137
  obtain ⟨y140, hy140⟩ : ∃ y_ : List Int, y_ = (([1, 1] : List Int)) := ⟨_, rfl⟩
  replace H : (if y137.length + y140.length < 17592186044416 then ((frame_Read.f (y137 ++ y140)).bind fun bt146 => (if 0 ≤ (mn (t131.length : Int) 20) then (if (mn (t131.length : Int) 20) ≤ (t131.length : Int) then ((frame_Read.f (t131.take ((mn (t131.length : Int) 20) : Int).toNat)).bind fun bt160 => ((frame_Read.f (([1] : List Int))).bind fun bt173 => (if (t131.length : Int) = 27 then (if 19 ≤ (t131.length : Int) then ((phaetonref01_Same.f k (t131.take 19) (([0, 0, 0, 0, 0, 0, 0, 0, 0, 0, 0, 1, 0, 0, 0, 0, 0, 0, 1] : List Int))).bind fun t191 => (if t191 = true then ((phaetonlaw04_One.f).bind fun bt192 => ((phaetonref04_Same.f bt146.1 bt146.2.1 bt146.2.2.1 bt146.2.2.2.1 bt146.2.2.2.2.1 bt192.1 bt192.2.1 bt192.2.2.1 bt192.2.2.2.1 bt192.2.2.2.2).bind fun t199 => (if t199 = true then (if bt146.2.2.2.2.2.1 = 27 then (if bt146.2.2.2.2.2.2 = 0 then (if bt160.2.2.2.2.2.2 = 40 then (if bt173.2.2.2.2.2.2 = 42 then ((frame_Rank.f true 262144 true 3 ([] : List Int)).bind fun t200 => (if (t200.length : Int) = 32 then ((frame_Head.f true 262144 true 3 ([] : List Int)).bind fun t203 => (if (t203.length : Int) = 39 then ((frame_Right.f true 262144 true 3 ([] : List Int)).bind fun t206 => (if t206 = true then ((frame_Right.f false 0 false 1 ([] : List Int)).bind fun t207 => (if t207 = true then (none) else ((frame_Same.f true 262144 true 3 ([] : List Int) true 262144 true 3 ([] : List Int)).bind fun t208 => (if t208 = true then ((phaetonlaw04_One.f).bind fun bt209 => ((frame_Same.f true 262144 true 3 ([] : List Int) bt209.1 bt209.2.1 bt209.2.2.1 bt209.2.2.2.1 bt209.2.2.2.2).bind fun t216 => (if t216 = true then (none) else (some true)))) else (none))))) else (none))) else (none))) else (none))) else (none)) else (none)) else (none)) else (none)) else (none)))) else (none))) else (none)) else (none)))) else (none)) else (none))) else (none)) = some r := by first | (rw [hy140]; with_reducible exact H) | (have H2_ := (Option.bind_some _ _).symm.trans H; rw [hy140]; with_reducible exact H2_) | (have H2_ := (Option.bind_some _ _).symm.trans H; with_reducible exact H2_) | with_reducible exact H | (rw [hy140]; exact H) | exact H
  have Ny140 := Aside0.mk hy140
  clear hy140
  by_cases c4 : y137.length + y140.length < 17592186044416
  ·rw [if_pos c4] at H
   have LMc4 := Aside0.mk c4
   clear c4
   obtain ⟨y143, hy143⟩ : ∃ y_ : List Int, y_ = (y137 ++ y140) := ⟨_, rfl⟩
   replace H : ((frame_Read.f y143).bind fun bt146 => (if 0 ≤ (mn (t131.length : Int) 20) then (if (mn (t131.length : Int) 20) ≤ (t131.length : Int) then ((frame_Read.f (t131.take ((mn (t131.length : Int) 20) : Int).toNat)).bind fun bt160 => ((frame_Read.f (([1] : List Int))).bind fun bt173 => (if (t131.length : Int) = 27 then (if 19 ≤ (t131.length : Int) then ((phaetonref01_Same.f k (t131.take 19) (([0, 0, 0, 0, 0, 0, 0, 0, 0, 0, 0, 1, 0, 0, 0, 0, 0, 0, 1] : List Int))).bind fun t191 => (if t191 = true then ((phaetonlaw04_One.f).bind fun bt192 => ((phaetonref04_Same.f bt146.1 bt146.2.1 bt146.2.2.1 bt146.2.2.2.1 bt146.2.2.2.2.1 bt192.1 bt192.2.1 bt192.2.2.1 bt192.2.2.2.1 bt192.2.2.2.2).bind fun t199 => (if t199 = true then (if bt146.2.2.2.2.2.1 = 27 then (if bt146.2.2.2.2.2.2 = 0 then (if bt160.2.2.2.2.2.2 = 40 then (if bt173.2.2.2.2.2.2 = 42 then ((frame_Rank.f true 262144 true 3 ([] : List Int)).bind fun t200 => (if (t200.length : Int) = 32 then ((frame_Head.f true 262144 true 3 ([] : List Int)).bind fun t203 => (if (t203.length : Int) = 39 then ((frame_Right.f true 262144 true 3 ([] : List Int)).bind fun t206 => (if t206 = true then ((frame_Right.f false 0 false 1 ([] : List Int)).bind fun t207 => (if t207 = true then (none) else ((frame_Same.f true 262144 true 3 ([] : List Int) true 262144 true 3 ([] : List Int)).bind fun t208 => (if t208 = true then ((phaetonlaw04_One.f).bind fun bt209 => ((frame_Same.f true 262144 true 3 ([] : List Int) bt209.1 bt209.2.1 bt209.2.2.1 bt209.2.2.2.1 bt209.2.2.2.2).bind fun t216 => (if t216 = true then (none) else (some true)))) else (none))))) else (none))) else (none))) else (none))) else (none)) else (none)) else (none)) else (none)) else (none)))) else (none))) else (none)) else (none)))) else (none)) else (none))) = some r := by first | (rw [hy143]; with_reducible exact H) | (have H2_ := (Option.bind_some _ _).symm.trans H; rw [hy143]; with_reducible exact H2_) | (have H2_ := (Option.bind_some _ _).symm.trans H; with_reducible exact H2_) | with_reducible exact H | (rw [hy143]; exact H) | exact H
   have Ny143 := Aside0.mk hy143
   clear hy143
   replace H := Option.bind_eq_some_iff.mp H
   obtain ⟨⟨t146, t147, t148, t149, t150, t153, t154⟩, A50, H⟩ := H
   replace H : (if 0 ≤ (mn (t131.length : Int) 20) then (if (mn (t131.length : Int) 20) ≤ (t131.length : Int) then ((frame_Read.f (t131.take ((mn (t131.length : Int) 20) : Int).toNat)).bind fun bt160 => ((frame_Read.f (([1] : List Int))).bind fun bt173 => (if (t131.length : Int) = 27 then (if 19 ≤ (t131.length : Int) then ((phaetonref01_Same.f k (t131.take 19) (([0, 0, 0, 0, 0, 0, 0, 0, 0, 0, 0, 1, 0, 0, 0, 0, 0, 0, 1] : List Int))).bind fun t191 => (if t191 = true then ((phaetonlaw04_One.f).bind fun bt192 => ((phaetonref04_Same.f t146 t147 t148 t149 t150 bt192.1 bt192.2.1 bt192.2.2.1 bt192.2.2.2.1 bt192.2.2.2.2).bind fun t199 => (if t199 = true then (if t153 = 27 then (if t154 = 0 then (if bt160.2.2.2.2.2.2 = 40 then (if bt173.2.2.2.2.2.2 = 42 then ((frame_Rank.f true 262144 true 3 ([] : List Int)).bind fun t200 => (if (t200.length : Int) = 32 then ((frame_Head.f true 262144 true 3 ([] : List Int)).bind fun t203 => (if (t203.length : Int) = 39 then ((frame_Right.f true 262144 true 3 ([] : List Int)).bind fun t206 => (if t206 = true then ((frame_Right.f false 0 false 1 ([] : List Int)).bind fun t207 => (if t207 = true then (none) else ((frame_Same.f true 262144 true 3 ([] : List Int) true 262144 true 3 ([] : List Int)).bind fun t208 => (if t208 = true then ((phaetonlaw04_One.f).bind fun bt209 => ((frame_Same.f true 262144 true 3 ([] : List Int) bt209.1 bt209.2.1 bt209.2.2.1 bt209.2.2.2.1 bt209.2.2.2.2).bind fun t216 => (if t216 = true then (none) else (some true)))) else (none))))) else (none))) else (none))) else (none))) else (none)) else (none)) else (none)) else (none)) else (none)))) else (none))) else (none)) else (none)))) else (none)) else (none)) = some r := H
   have A5 := Aside0.mk A50
   clear A50
   obtain ⟨ji6, hji6⟩ : ∃ j_ : Int, (mn (t131.length : Int) 20) = j_ := ⟨_, rfl⟩
   replace H : (if 0 ≤ (ji6) then (if (ji6) ≤ (t131.length : Int) then ((frame_Read.f (t131.take ((ji6) : Int).toNat)).bind fun bt160 => ((frame_Read.f (([1] : List Int))).bind fun bt173 => (if (t131.length : Int) = 27 then (if 19 ≤ (t131.length : Int) then ((phaetonref01_Same.f k (t131.take 19) (([0, 0, 0, 0, 0, 0, 0, 0, 0, 0, 0, 1, 0, 0, 0, 0, 0, 0, 1] : List Int))).bind fun t191 => (if t191 = true then ((phaetonlaw04_One.f).bind fun bt192 => ((phaetonref04_Same.f t146 t147 t148 t149 t150 bt192.1 bt192.2.1 bt192.2.2.1 bt192.2.2.2.1 bt192.2.2.2.2).bind fun t199 => (if t199 = true then (if t153 = 27 then (if t154 = 0 then (if bt160.2.2.2.2.2.2 = 40 then (if bt173.2.2.2.2.2.2 = 42 then ((frame_Rank.f true 262144 true 3 ([] : List Int)).bind fun t200 => (if (t200.length : Int) = 32 then ((frame_Head.f true 262144 true 3 ([] : List Int)).bind fun t203 => (if (t203.length : Int) = 39 then ((frame_Right.f true 262144 true 3 ([] : List Int)).bind fun t206 => (if t206 = true then ((frame_Right.f false 0 false 1 ([] : List Int)).bind fun t207 => (if t207 = true then (none) else ((frame_Same.f true 262144 true 3 ([] : List Int) true 262144 true 3 ([] : List Int)).bind fun t208 => (if t208 = true then ((phaetonlaw04_One.f).bind fun bt209 => ((frame_Same.f true 262144 true 3 ([] : List Int) bt209.1 bt209.2.1 bt209.2.2.1 bt209.2.2.2.1 bt209.2.2.2.2).bind fun t216 => (if t216 = true then (none) else (some true)))) else (none))))) else (none))) else (none))) else (none))) else (none)) else (none)) else (none)) else (none)) else (none)))) else (none))) else (none)) else (none)))) else (none)) else (none)) = some r := by first | (rw [hji6] at H; exact H) | (simp only [hji6] at H ⊢; exact H)
   (try rw [hji6] at A1)
   (try rw [hji6] at A2)
   (try rw [hji6] at A5)
   (try (have hji6h : ji6 ≤ 20 := by (rw [← hji6]; unfold mn; (repeat' split) <;> omega)))
   (try (have hji6g : ji6 ≤ 64 := by omega))
   (try (have hji6l : 0 ≤ ji6 := by (rw [← hji6]; unfold mn; (repeat' split) <;> omega)))
   (try (have hji6m : 0 ≤ ji6 := by omega))
   have hji6_ : (if 20 < (t131.length : Int) then 20 else (t131.length : Int)) = ji6 := hji6
   by_cases c7 : 0 ≤ (ji6)
   ·rw [if_pos c7] at H
    have c7b0 := eq_true c7
    have c7b1 : decide (0 ≤ (ji6)) = true := decide_eq_true c7
    have c7m : max (ji6) 0 = (ji6) := by omega
    clear c7
    by_cases c8 : (ji6) ≤ (t131.length : Int)
    ·rw [if_pos c8] at H
     have c8b0 := eq_true c8
     have c8b1 : decide ((ji6) ≤ (t131.length : Int)) = true := decide_eq_true c8
     clear c8
     obtain ⟨y156, hy156⟩ : ∃ y_ : List Int, y_ = (t131.take ((ji6) : Int).toNat) := ⟨_, rfl⟩
     replace H : ((frame_Read.f y156).bind fun bt160 => ((frame_Read.f (([1] : List Int))).bind fun bt173 => (if (t131.length : Int) = 27 then (if 19 ≤ (t131.length : Int) then ((phaetonref01_Same.f k (t131.take 19) (([0, 0, 0, 0, 0, 0, 0, 0, 0, 0, 0, 1, 0, 0, 0, 0, 0, 0, 1] : List Int))).bind fun t191 => (if t191 = true then ((phaetonlaw04_One.f).bind fun bt192 => ((phaetonref04_Same.f t146 t147 t148 t149 t150 bt192.1 bt192.2.1 bt192.2.2.1 bt192.2.2.2.1 bt192.2.2.2.2).bind fun t199 => (if t199 = true then (if t153 = 27 then (if t154 = 0 then (if bt160.2.2.2.2.2.2 = 40 then (if bt173.2.2.2.2.2.2 = 42 then ((frame_Rank.f true 262144 true 3 ([] : List Int)).bind fun t200 => (if (t200.length : Int) = 32 then ((frame_Head.f true 262144 true 3 ([] : List Int)).bind fun t203 => (if (t203.length : Int) = 39 then ((frame_Right.f true 262144 true 3 ([] : List Int)).bind fun t206 => (if t206 = true then ((frame_Right.f false 0 false 1 ([] : List Int)).bind fun t207 => (if t207 = true then (none) else ((frame_Same.f true 262144 true 3 ([] : List Int) true 262144 true 3 ([] : List Int)).bind fun t208 => (if t208 = true then ((phaetonlaw04_One.f).bind fun bt209 => ((frame_Same.f true 262144 true 3 ([] : List Int) bt209.1 bt209.2.1 bt209.2.2.1 bt209.2.2.2.1 bt209.2.2.2.2).bind fun t216 => (if t216 = true then (none) else (some true)))) else (none))))) else (none))) else (none))) else (none))) else (none)) else (none)) else (none)) else (none)) else (none)))) else (none))) else (none)) else (none)))) = some r := by first | (rw [hy156]; with_reducible exact H) | (have H2_ := (Option.bind_some _ _).symm.trans H; rw [hy156]; with_reducible exact H2_) | (have H2_ := (Option.bind_some _ _).symm.trans H; with_reducible exact H2_) | with_reducible exact H | (rw [hy156]; exact H) | exact H
     have Ny156 := Aside0.mk hy156
     clear hy156
     replace H := Option.bind_eq_some_iff.mp H
     obtain ⟨⟨t160, t161, t162, t163, t164, t167, t168⟩, A90, H⟩ := H
     replace H : ((frame_Read.f (([1] : List Int))).bind fun bt173 => (if (t131.length : Int) = 27 then (if 19 ≤ (t131.length : Int) then ((phaetonref01_Same.f k (t131.take 19) (([0, 0, 0, 0, 0, 0, 0, 0, 0, 0, 0, 1, 0, 0, 0, 0, 0, 0, 1] : List Int))).bind fun t191 => (if t191 = true then ((phaetonlaw04_One.f).bind fun bt192 => ((phaetonref04_Same.f t146 t147 t148 t149 t150 bt192.1 bt192.2.1 bt192.2.2.1 bt192.2.2.2.1 bt192.2.2.2.2).bind fun t199 => (if t199 = true then (if t153 = 27 then (if t154 = 0 then (if t168 = 40 then (if bt173.2.2.2.2.2.2 = 42 then ((frame_Rank.f true 262144 true 3 ([] : List Int)).bind fun t200 => (if (t200.length : Int) = 32 then ((frame_Head.f true 262144 true 3 ([] : List Int)).bind fun t203 => (if (t203.length : Int) = 39 then ((frame_Right.f true 262144 true 3 ([] : List Int)).bind fun t206 => (if t206 = true then ((frame_Right.f false 0 false 1 ([] : List Int)).bind fun t207 => (if t207 = true then (none) else ((frame_Same.f true 262144 true 3 ([] : List Int) true 262144 true 3 ([] : List Int)).bind fun t208 => (if t208 = true then ((phaetonlaw04_One.f).bind fun bt209 => ((frame_Same.f true 262144 true 3 ([] : List Int) bt209.1 bt209.2.1 bt209.2.2.1 bt209.2.2.2.1 bt209.2.2.2.2).bind fun t216 => (if t216 = true then (none) else (some true)))) else (none))))) else (none))) else (none))) else (none))) else (none)) else (none)) else (none)) else (none)) else (none)))) else (none))) else (none)) else (none))) = some r := H
     have A9 := Aside0.mk A90
     clear A90
     obtain ⟨y170, hy170⟩ : ∃ y_ : List Int, y_ = (([1] : List Int)) := ⟨_, rfl⟩
     replace H : ((frame_Read.f y170).bind fun bt173 => (if (t131.length : Int) = 27 then (if 19 ≤ (t131.length : Int) then ((phaetonref01_Same.f k (t131.take 19) (([0, 0, 0, 0, 0, 0, 0, 0, 0, 0, 0, 1, 0, 0, 0, 0, 0, 0, 1] : List Int))).bind fun t191 => (if t191 = true then ((phaetonlaw04_One.f).bind fun bt192 => ((phaetonref04_Same.f t146 t147 t148 t149 t150 bt192.1 bt192.2.1 bt192.2.2.1 bt192.2.2.2.1 bt192.2.2.2.2).bind fun t199 => (if t199 = true then (if t153 = 27 then (if t154 = 0 then (if t168 = 40 then (if bt173.2.2.2.2.2.2 = 42 then ((frame_Rank.f true 262144 true 3 ([] : List Int)).bind fun t200 => (if (t200.length : Int) = 32 then ((frame_Head.f true 262144 true 3 ([] : List Int)).bind fun t203 => (if (t203.length : Int) = 39 then ((frame_Right.f true 262144 true 3 ([] : List Int)).bind fun t206 => (if t206 = true then ((frame_Right.f false 0 false 1 ([] : List Int)).bind fun t207 => (if t207 = true then (none) else ((frame_Same.f true 262144 true 3 ([] : List Int) true 262144 true 3 ([] : List Int)).bind fun t208 => (if t208 = true then ((phaetonlaw04_One.f).bind fun bt209 => ((frame_Same.f true 262144 true 3 ([] : List Int) bt209.1 bt209.2.1 bt209.2.2.1 bt209.2.2.2.1 bt209.2.2.2.2).bind fun t216 => (if t216 = true then (none) else (some true)))) else (none))))) else (none))) else (none))) else (none))) else (none)) else (none)) else (none)) else (none)) else (none)))) else (none))) else (none)) else (none))) = some r := by first | (rw [hy170]; with_reducible exact H) | (have H2_ := (Option.bind_some _ _).symm.trans H; rw [hy170]; with_reducible exact H2_) | (have H2_ := (Option.bind_some _ _).symm.trans H; with_reducible exact H2_) | with_reducible exact H | (rw [hy170]; exact H) | exact H
     have Ny170 := Aside0.mk hy170
     clear hy170
     replace H := Option.bind_eq_some_iff.mp H
     obtain ⟨⟨t173, t174, t175, t176, t177, t180, t181⟩, A100, H⟩ := H
     replace H : (if (t131.length : Int) = 27 then (if 19 ≤ (t131.length : Int) then ((phaetonref01_Same.f k (t131.take 19) (([0, 0, 0, 0, 0, 0, 0, 0, 0, 0, 0, 1, 0, 0, 0, 0, 0, 0, 1] : List Int))).bind fun t191 => (if t191 = true then ((phaetonlaw04_One.f).bind fun bt192 => ((phaetonref04_Same.f t146 t147 t148 t149 t150 bt192.1 bt192.2.1 bt192.2.2.1 bt192.2.2.2.1 bt192.2.2.2.2).bind fun t199 => (if t199 = true then (if t153 = 27 then (if t154 = 0 then (if t168 = 40 then (if t181 = 42 then ((frame_Rank.f true 262144 true 3 ([] : List Int)).bind fun t200 => (if (t200.length : Int) = 32 then ((frame_Head.f true 262144 true 3 ([] : List Int)).bind fun t203 => (if (t203.length : Int) = 39 then ((frame_Right.f true 262144 true 3 ([] : List Int)).bind fun t206 => (if t206 = true then ((frame_Right.f false 0 false 1 ([] : List Int)).bind fun t207 => (if t207 = true then (none) else ((frame_Same.f true 262144 true 3 ([] : List Int) true 262144 true 3 ([] : List Int)).bind fun t208 => (if t208 = true then ((phaetonlaw04_One.f).bind fun bt209 => ((frame_Same.f true 262144 true 3 ([] : List Int) bt209.1 bt209.2.1 bt209.2.2.1 bt209.2.2.2.1 bt209.2.2.2.2).bind fun t216 => (if t216 = true then (none) else (some true)))) else (none))))) else (none))) else (none))) else (none))) else (none)) else (none)) else (none)) else (none)) else (none)))) else (none))) else (none)) else (none)) = some r := H
     have A10 := Aside0.mk A100
     clear A100
     by_cases c11 : (t131.length : Int) = 27
     ·rw [if_pos c11] at H
      have c11b0 : ((t131.length : Int) == 27) = true := beq_iff_eq.mpr c11
      have c11b1 : ((t131.length : Int) != 27) = false := bne_eq_false_iff_eq.mpr c11
      clear c11
      by_cases c12 : 19 ≤ (t131.length : Int)
      ·rw [if_pos c12] at H
       have c12b0 := eq_true c12
       have c12b1 : decide (19 ≤ (t131.length : Int)) = true := decide_eq_true c12
       clear c12
       obtain ⟨y184, hy184⟩ : ∃ y_ : List Int, y_ = (t131.take 19) := ⟨_, rfl⟩
       replace H : ((phaetonref01_Same.f k y184 (([0, 0, 0, 0, 0, 0, 0, 0, 0, 0, 0, 1, 0, 0, 0, 0, 0, 0, 1] : List Int))).bind fun t191 => (if t191 = true then ((phaetonlaw04_One.f).bind fun bt192 => ((phaetonref04_Same.f t146 t147 t148 t149 t150 bt192.1 bt192.2.1 bt192.2.2.1 bt192.2.2.2.1 bt192.2.2.2.2).bind fun t199 => (if t199 = true then (if t153 = 27 then (if t154 = 0 then (if t168 = 40 then (if t181 = 42 then ((frame_Rank.f true 262144 true 3 ([] : List Int)).bind fun t200 => (if (t200.length : Int) = 32 then ((frame_Head.f true 262144 true 3 ([] : List Int)).bind fun t203 => (if (t203.length : Int) = 39 then ((frame_Right.f true 262144 true 3 ([] : List Int)).bind fun t206 => (if t206 = true then ((frame_Right.f false 0 false 1 ([] : List Int)).bind fun t207 => (if t207 = true then (none) else ((frame_Same.f true 262144 true 3 ([] : List Int) true 262144 true 3 ([] : List Int)).bind fun t208 => (if t208 = true then ((phaetonlaw04_One.f).bind fun bt209 => ((frame_Same.f true 262144 true 3 ([] : List Int) bt209.1 bt209.2.1 bt209.2.2.1 bt209.2.2.2.1 bt209.2.2.2.2).bind fun t216 => (if t216 = true then (none) else (some true)))) else (none))))) else (none))) else (none))) else (none))) else (none)) else (none)) else (none)) else (none)) else (none)))) else (none))) = some r := by first | (rw [hy184]; with_reducible exact H) | (have H2_ := (Option.bind_some _ _).symm.trans H; rw [hy184]; with_reducible exact H2_) | (have H2_ := (Option.bind_some _ _).symm.trans H; with_reducible exact H2_) | with_reducible exact H | (rw [hy184]; exact H) | exact H
       have Ny184 := Aside0.mk hy184
       clear hy184
       obtain ⟨y188, hy188⟩ : ∃ y_ : List Int, y_ = (([0, 0, 0, 0, 0, 0, 0, 0, 0, 0, 0, 1, 0, 0, 0, 0, 0, 0, 1] : List Int)) := ⟨_, rfl⟩
       replace H : ((phaetonref01_Same.f k y184 y188).bind fun t191 => (if t191 = true then ((phaetonlaw04_One.f).bind fun bt192 => ((phaetonref04_Same.f t146 t147 t148 t149 t150 bt192.1 bt192.2.1 bt192.2.2.1 bt192.2.2.2.1 bt192.2.2.2.2).bind fun t199 => (if t199 = true then (if t153 = 27 then (if t154 = 0 then (if t168 = 40 then (if t181 = 42 then ((frame_Rank.f true 262144 true 3 ([] : List Int)).bind fun t200 => (if (t200.length : Int) = 32 then ((frame_Head.f true 262144 true 3 ([] : List Int)).bind fun t203 => (if (t203.length : Int) = 39 then ((frame_Right.f true 262144 true 3 ([] : List Int)).bind fun t206 => (if t206 = true then ((frame_Right.f false 0 false 1 ([] : List Int)).bind fun t207 => (if t207 = true then (none) else ((frame_Same.f true 262144 true 3 ([] : List Int) true 262144 true 3 ([] : List Int)).bind fun t208 => (if t208 = true then ((phaetonlaw04_One.f).bind fun bt209 => ((frame_Same.f true 262144 true 3 ([] : List Int) bt209.1 bt209.2.1 bt209.2.2.1 bt209.2.2.2.1 bt209.2.2.2.2).bind fun t216 => (if t216 = true then (none) else (some true)))) else (none))))) else (none))) else (none))) else (none))) else (none)) else (none)) else (none)) else (none)) else (none)))) else (none))) = some r := by first | (rw [hy188]; with_reducible exact H) | (have H2_ := (Option.bind_some _ _).symm.trans H; rw [hy188]; with_reducible exact H2_) | (have H2_ := (Option.bind_some _ _).symm.trans H; with_reducible exact H2_) | with_reducible exact H | (rw [hy188]; exact H) | exact H
       have Ny188 := Aside0.mk hy188
       clear hy188
       replace H := Option.bind_eq_some_iff.mp H
       obtain ⟨t191, A130, H⟩ := H
       replace H : (if t191 = true then ((phaetonlaw04_One.f).bind fun bt192 => ((phaetonref04_Same.f t146 t147 t148 t149 t150 bt192.1 bt192.2.1 bt192.2.2.1 bt192.2.2.2.1 bt192.2.2.2.2).bind fun t199 => (if t199 = true then (if t153 = 27 then (if t154 = 0 then (if t168 = 40 then (if t181 = 42 then ((frame_Rank.f true 262144 true 3 ([] : List Int)).bind fun t200 => (if (t200.length : Int) = 32 then ((frame_Head.f true 262144 true 3 ([] : List Int)).bind fun t203 => (if (t203.length : Int) = 39 then ((frame_Right.f true 262144 true 3 ([] : List Int)).bind fun t206 => (if t206 = true then ((frame_Right.f false 0 false 1 ([] : List Int)).bind fun t207 => (if t207 = true then (none) else ((frame_Same.f true 262144 true 3 ([] : List Int) true 262144 true 3 ([] : List Int)).bind fun t208 => (if t208 = true then ((phaetonlaw04_One.f).bind fun bt209 => ((frame_Same.f true 262144 true 3 ([] : List Int) bt209.1 bt209.2.1 bt209.2.2.1 bt209.2.2.2.1 bt209.2.2.2.2).bind fun t216 => (if t216 = true then (none) else (some true)))) else (none))))) else (none))) else (none))) else (none))) else (none)) else (none)) else (none)) else (none)) else (none)))) else (none)) = some r := H
       have A13 := Aside0.mk A130
       clear A130
       by_cases c14 : t191 = true
       ·subst c14
        have H1 : ((phaetonlaw04_One.f).bind fun bt192 => ((phaetonref04_Same.f t146 t147 t148 t149 t150 bt192.1 bt192.2.1 bt192.2.2.1 bt192.2.2.2.1 bt192.2.2.2.2).bind fun t199 => (if t199 = true then (if t153 = 27 then (if t154 = 0 then (if t168 = 40 then (if t181 = 42 then ((frame_Rank.f true 262144 true 3 ([] : List Int)).bind fun t200 => (if (t200.length : Int) = 32 then ((frame_Head.f true 262144 true 3 ([] : List Int)).bind fun t203 => (if (t203.length : Int) = 39 then ((frame_Right.f true 262144 true 3 ([] : List Int)).bind fun t206 => (if t206 = true then ((frame_Right.f false 0 false 1 ([] : List Int)).bind fun t207 => (if t207 = true then (none) else ((frame_Same.f true 262144 true 3 ([] : List Int) true 262144 true 3 ([] : List Int)).bind fun t208 => (if t208 = true then ((phaetonlaw04_One.f).bind fun bt209 => ((frame_Same.f true 262144 true 3 ([] : List Int) bt209.1 bt209.2.1 bt209.2.2.1 bt209.2.2.2.1 bt209.2.2.2.2).bind fun t216 => (if t216 = true then (none) else (some true)))) else (none))))) else (none))) else (none))) else (none))) else (none)) else (none)) else (none)) else (none)) else (none)))) = some r := by rw [if_pos rfl] at H; exact H
        clear H
        have H := H1
        clear H1
        replace H := Option.bind_eq_some_iff.mp H
        obtain ⟨⟨t192, t193, t194, t195, t196⟩, A150, H⟩ := H
        replace H : ((phaetonref04_Same.f t146 t147 t148 t149 t150 t192 t193 t194 t195 t196).bind fun t199 => (if t199 = true then (if t153 = 27 then (if t154 = 0 then (if t168 = 40 then (if t181 = 42 then ((frame_Rank.f true 262144 true 3 ([] : List Int)).bind fun t200 => (if (t200.length : Int) = 32 then ((frame_Head.f true 262144 true 3 ([] : List Int)).bind fun t203 => (if (t203.length : Int) = 39 then ((frame_Right.f true 262144 true 3 ([] : List Int)).bind fun t206 => (if t206 = true then ((frame_Right.f false 0 false 1 ([] : List Int)).bind fun t207 => (if t207 = true then (none) else ((frame_Same.f true 262144 true 3 ([] : List Int) true 262144 true 3 ([] : List Int)).bind fun t208 => (if t208 = true then ((phaetonlaw04_One.f).bind fun bt209 => ((frame_Same.f true 262144 true 3 ([] : List Int) bt209.1 bt209.2.1 bt209.2.2.1 bt209.2.2.2.1 bt209.2.2.2.2).bind fun t216 => (if t216 = true then (none) else (some true)))) else (none))))) else (none))) else (none))) else (none))) else (none)) else (none)) else (none)) else (none)) else (none))) = some r := H
        have A15 := Aside0.mk A150
        clear A150
        replace H := Option.bind_eq_some_iff.mp H
        obtain ⟨t199, A160, H⟩ := H
        replace H : (if t199 = true then (if t153 = 27 then (if t154 = 0 then (if t168 = 40 then (if t181 = 42 then ((frame_Rank.f true 262144 true 3 ([] : List Int)).bind fun t200 => (if (t200.length : Int) = 32 then ((frame_Head.f true 262144 true 3 ([] : List Int)).bind fun t203 => (if (t203.length : Int) = 39 then ((frame_Right.f true 262144 true 3 ([] : List Int)).bind fun t206 => (if t206 = true then ((frame_Right.f false 0 false 1 ([] : List Int)).bind fun t207 => (if t207 = true then (none) else ((frame_Same.f true 262144 true 3 ([] : List Int) true 262144 true 3 ([] : List Int)).bind fun t208 => (if t208 = true then ((phaetonlaw04_One.f).bind fun bt209 => ((frame_Same.f true 262144 true 3 ([] : List Int) bt209.1 bt209.2.1 bt209.2.2.1 bt209.2.2.2.1 bt209.2.2.2.2).bind fun t216 => (if t216 = true then (none) else (some true)))) else (none))))) else (none))) else (none))) else (none))) else (none)) else (none)) else (none)) else (none)) else (none)) = some r := H
        have A16 := Aside0.mk A160
        clear A160
        by_cases c17 : t199 = true
        ·subst c17
         have H1 : (if t153 = 27 then (if t154 = 0 then (if t168 = 40 then (if t181 = 42 then ((frame_Rank.f true 262144 true 3 ([] : List Int)).bind fun t200 => (if (t200.length : Int) = 32 then ((frame_Head.f true 262144 true 3 ([] : List Int)).bind fun t203 => (if (t203.length : Int) = 39 then ((frame_Right.f true 262144 true 3 ([] : List Int)).bind fun t206 => (if t206 = true then ((frame_Right.f false 0 false 1 ([] : List Int)).bind fun t207 => (if t207 = true then (none) else ((frame_Same.f true 262144 true 3 ([] : List Int) true 262144 true 3 ([] : List Int)).bind fun t208 => (if t208 = true then ((phaetonlaw04_One.f).bind fun bt209 => ((frame_Same.f true 262144 true 3 ([] : List Int) bt209.1 bt209.2.1 bt209.2.2.1 bt209.2.2.2.1 bt209.2.2.2.2).bind fun t216 => (if t216 = true then (none) else (some true)))) else (none))))) else (none))) else (none))) else (none))) else (none)) else (none)) else (none)) else (none)) = some r := by rw [if_pos rfl] at H; exact H
         clear H
         have H := H1
         clear H1
         by_cases c18 : t153 = 27
         ·rw [if_pos c18] at H
          have c18b0 : (t153 == 27) = true := beq_iff_eq.mpr c18
          have c18b1 : (t153 != 27) = false := bne_eq_false_iff_eq.mpr c18
          clear c18
          by_cases c19 : t154 = 0
          ·rw [if_pos c19] at H
           have c19b0 : (t154 == 0) = true := beq_iff_eq.mpr c19
           have c19b1 : (t154 != 0) = false := bne_eq_false_iff_eq.mpr c19
           clear c19
           by_cases c20 : t168 = 40
           ·rw [if_pos c20] at H
            have c20b0 : (t168 == 40) = true := beq_iff_eq.mpr c20
            have c20b1 : (t168 != 40) = false := bne_eq_false_iff_eq.mpr c20
            clear c20
            by_cases c21 : t181 = 42
            ·rw [if_pos c21] at H
             have c21b0 : (t181 == 42) = true := beq_iff_eq.mpr c21
             have c21b1 : (t181 != 42) = false := bne_eq_false_iff_eq.mpr c21
             clear c21
             replace H := Option.bind_eq_some_iff.mp H
             obtain ⟨t200, A220, H⟩ := H
             replace H : (if (t200.length : Int) = 32 then ((frame_Head.f true 262144 true 3 ([] : List Int)).bind fun t203 => (if (t203.length : Int) = 39 then ((frame_Right.f true 262144 true 3 ([] : List Int)).bind fun t206 => (if t206 = true then ((frame_Right.f false 0 false 1 ([] : List Int)).bind fun t207 => (if t207 = true then (none) else ((frame_Same.f true 262144 true 3 ([] : List Int) true 262144 true 3 ([] : List Int)).bind fun t208 => (if t208 = true then ((phaetonlaw04_One.f).bind fun bt209 => ((frame_Same.f true 262144 true 3 ([] : List Int) bt209.1 bt209.2.1 bt209.2.2.1 bt209.2.2.2.1 bt209.2.2.2.2).bind fun t216 => (if t216 = true then (none) else (some true)))) else (none))))) else (none))) else (none))) else (none)) = some r := H
             have A22 := Aside0.mk A220
             clear A220
             by_cases c23 : (t200.length : Int) = 32
             ·rw [if_pos c23] at H
              have c23b0 : ((t200.length : Int) == 32) = true := beq_iff_eq.mpr c23
              have c23b1 : ((t200.length : Int) != 32) = false := bne_eq_false_iff_eq.mpr c23
              clear c23
              replace H := Option.bind_eq_some_iff.mp H
              obtain ⟨t203, A240, H⟩ := H
              replace H : (if (t203.length : Int) = 39 then ((frame_Right.f true 262144 true 3 ([] : List Int)).bind fun t206 => (if t206 = true then ((frame_Right.f false 0 false 1 ([] : List Int)).bind fun t207 => (if t207 = true then (none) else ((frame_Same.f true 262144 true 3 ([] : List Int) true 262144 true 3 ([] : List Int)).bind fun t208 => (if t208 = true then ((phaetonlaw04_One.f).bind fun bt209 => ((frame_Same.f true 262144 true 3 ([] : List Int) bt209.1 bt209.2.1 bt209.2.2.1 bt209.2.2.2.1 bt209.2.2.2.2).bind fun t216 => (if t216 = true then (none) else (some true)))) else (none))))) else (none))) else (none)) = some r := H
              have A24 := Aside0.mk A240
              clear A240
              by_cases c25 : (t203.length : Int) = 39
              ·rw [if_pos c25] at H
               have c25b0 : ((t203.length : Int) == 39) = true := beq_iff_eq.mpr c25
               have c25b1 : ((t203.length : Int) != 39) = false := bne_eq_false_iff_eq.mpr c25
               clear c25
               replace H := Option.bind_eq_some_iff.mp H
               obtain ⟨t206, A260, H⟩ := H
               replace H : (if t206 = true then ((frame_Right.f false 0 false 1 ([] : List Int)).bind fun t207 => (if t207 = true then (none) else ((frame_Same.f true 262144 true 3 ([] : List Int) true 262144 true 3 ([] : List Int)).bind fun t208 => (if t208 = true then ((phaetonlaw04_One.f).bind fun bt209 => ((frame_Same.f true 262144 true 3 ([] : List Int) bt209.1 bt209.2.1 bt209.2.2.1 bt209.2.2.2.1 bt209.2.2.2.2).bind fun t216 => (if t216 = true then (none) else (some true)))) else (none))))) else (none)) = some r := H
               have A26 := Aside0.mk A260
               clear A260
               by_cases c27 : t206 = true
               ·subst c27
                have H1 : ((frame_Right.f false 0 false 1 ([] : List Int)).bind fun t207 => (if t207 = true then (none) else ((frame_Same.f true 262144 true 3 ([] : List Int) true 262144 true 3 ([] : List Int)).bind fun t208 => (if t208 = true then ((phaetonlaw04_One.f).bind fun bt209 => ((frame_Same.f true 262144 true 3 ([] : List Int) bt209.1 bt209.2.1 bt209.2.2.1 bt209.2.2.2.1 bt209.2.2.2.2).bind fun t216 => (if t216 = true then (none) else (some true)))) else (none))))) = some r := by rw [if_pos rfl] at H; exact H
                clear H
                have H := H1
                clear H1
                replace H := Option.bind_eq_some_iff.mp H
                obtain ⟨t207, A280, H⟩ := H
                replace H : (if t207 = true then (none) else ((frame_Same.f true 262144 true 3 ([] : List Int) true 262144 true 3 ([] : List Int)).bind fun t208 => (if t208 = true then ((phaetonlaw04_One.f).bind fun bt209 => ((frame_Same.f true 262144 true 3 ([] : List Int) bt209.1 bt209.2.1 bt209.2.2.1 bt209.2.2.2.1 bt209.2.2.2.2).bind fun t216 => (if t216 = true then (none) else (some true)))) else (none)))) = some r := H
                have A28 := Aside0.mk A280
                clear A280
                by_cases c29 : t207 = true
                ·subst c29
                 have H1 : (none) = some r := by rw [if_pos rfl] at H; exact H
                 clear H
                 have H := H1
                 clear H1
                 exact absurd H (by simp)
                ·replace c29 := Bool.eq_false_iff.mpr c29
                 subst c29
                 have H1 : ((frame_Same.f true 262144 true 3 ([] : List Int) true 262144 true 3 ([] : List Int)).bind fun t208 => (if t208 = true then ((phaetonlaw04_One.f).bind fun bt209 => ((frame_Same.f true 262144 true 3 ([] : List Int) bt209.1 bt209.2.1 bt209.2.2.1 bt209.2.2.2.1 bt209.2.2.2.2).bind fun t216 => (if t216 = true then (none) else (some true)))) else (none))) = some r := by rw [if_neg (show ¬ (false = true) by decide)] at H; exact H
                 clear H
                 have H := H1
                 clear H1
                 replace H := Option.bind_eq_some_iff.mp H
                 obtain ⟨t208, A300, H⟩ := H
                 replace H : (if t208 = true then ((phaetonlaw04_One.f).bind fun bt209 => ((frame_Same.f true 262144 true 3 ([] : List Int) bt209.1 bt209.2.1 bt209.2.2.1 bt209.2.2.2.1 bt209.2.2.2.2).bind fun t216 => (if t216 = true then (none) else (some true)))) else (none)) = some r := H
                 have A30 := Aside0.mk A300
                 clear A300
                 by_cases c31 : t208 = true
                 ·subst c31
                  have H1 : ((phaetonlaw04_One.f).bind fun bt209 => ((frame_Same.f true 262144 true 3 ([] : List Int) bt209.1 bt209.2.1 bt209.2.2.1 bt209.2.2.2.1 bt209.2.2.2.2).bind fun t216 => (if t216 = true then (none) else (some true)))) = some r := by rw [if_pos rfl] at H; exact H
                  clear H
                  have H := H1
                  clear H1
                  replace H := Option.bind_eq_some_iff.mp H
                  obtain ⟨⟨t209, t210, t211, t212, t213⟩, A320, H⟩ := H
                  replace H : ((frame_Same.f true 262144 true 3 ([] : List Int) t209 t210 t211 t212 t213).bind fun t216 => (if t216 = true then (none) else (some true))) = some r := H
                  have A32 := Aside0.mk A320
                  clear A320
                  replace H := Option.bind_eq_some_iff.mp H
                  obtain ⟨t216, A330, H⟩ := H
                  replace H : (if t216 = true then (none) else (some true)) = some r := H
                  have A33 := Aside0.mk A330
                  clear A330
                  by_cases c34 : t216 = true
                  ·subst c34
                   have H1 : (none) = some r := by rw [if_pos rfl] at H; exact H
                   clear H
                   have H := H1
                   clear H1
                   exact absurd H (by simp)
                  ·replace c34 := Bool.eq_false_iff.mpr c34
                   subst c34
                   have H1 : (some true) = some r := by rw [if_neg (show ¬ (false = true) by decide)] at H; exact H
                   clear H
                   have H := H1
                   clear H1
                   obtain rfl := Option.some.inj H
                   go_enter Try.func10, Try.ntmps10
                   (try simp only [List.append])
                   try go_wp2_with (first | ((with_reducible refine gate_store (t := 24) (p := 11) rfl ?_); refine HW.store_box5 rfl rfl 24 _ _ rfl rfl rfl BK183.out rfl (by kernel_rfl) rfl rfl rfl rfl rfl ?_; intro w1_ hw1_ hk1_; subst hw1_; have hcb183_0 := (blk_cell hk1_ 0).trans rfl; have hfb183_0 := blk_frozen hk1_ 0; have hcb183_1 := (blk_cell hk1_ 1).trans rfl; have hfb183_1 := blk_frozen hk1_ 1; have hcb183_2 := (blk_cell hk1_ 2).trans rfl; have hfb183_2 := blk_frozen hk1_ 2; have hcb183_3 := (blk_cell hk1_ 3).trans rfl; have hfb183_3 := blk_frozen hk1_ 3; have hcb183_4 := (blk_cell hk1_ 4).trans rfl; have hfb183_4 := blk_frozen hk1_ 4; clear hk1_) | ((with_reducible refine gate_store (t := 24) (p := 8) rfl ?_); refine HW.store_box5 rfl rfl 24 _ _ rfl rfl rfl BK182.out rfl (by kernel_rfl) rfl rfl rfl rfl rfl ?_; intro w1_ hw1_ hk1_; subst hw1_; have hcb182_0 := (blk_cell hk1_ 0).trans rfl; have hfb182_0 := blk_frozen hk1_ 0; have hcb182_1 := (blk_cell hk1_ 1).trans rfl; have hfb182_1 := blk_frozen hk1_ 1; have hcb182_2 := (blk_cell hk1_ 2).trans rfl; have hfb182_2 := blk_frozen hk1_ 2; have hcb182_3 := (blk_cell hk1_ 3).trans rfl; have hfb182_3 := blk_frozen hk1_ 3; have hcb182_4 := (blk_cell hk1_ 4).trans rfl; have hfb182_4 := blk_frozen hk1_ 4; clear hk1_) | ((with_reducible refine gate_store (t := 24) (p := 5) rfl ?_); refine HW.store_box5 rfl rfl 24 _ _ rfl rfl rfl BK169.out rfl (by kernel_rfl) rfl rfl rfl rfl rfl ?_; intro w1_ hw1_ hk1_; subst hw1_; have hcb169_0 := (blk_cell hk1_ 0).trans rfl; have hfb169_0 := blk_frozen hk1_ 0; have hcb169_1 := (blk_cell hk1_ 1).trans rfl; have hfb169_1 := blk_frozen hk1_ 1; have hcb169_2 := (blk_cell hk1_ 2).trans rfl; have hfb169_2 := blk_frozen hk1_ 2; have hcb169_3 := (blk_cell hk1_ 3).trans rfl; have hfb169_3 := blk_frozen hk1_ 3; have hcb169_4 := (blk_cell hk1_ 4).trans rfl; have hfb169_4 := blk_frozen hk1_ 4; clear hk1_) | ((with_reducible refine gate_callee (f := 26) rfl ?_); refine goesL_ (some 12) rfl rfl Try.func26 (by kernel_rfl) rfl #[] rfl (by (try simp only [List.map_toArray, List.map_cons, List.map_nil]); first | done | rfl | (simp only [List.length_drop, List.length_take]; rfl)) ?_; (with_reducible refine (phaetonlaw04_One.calls  t124 t125 t126 t127 t128 _ A1.out).mono ?_); rintro e w35 ⟨v129, rfl, ho0, hb⟩; refine ⟨_, rfl, ?_⟩; have n0_ := Aside0.mk (Kd.R_lower ho0 (below_size (by repeat (first | (with_reducible first | exact HB.out | apply below_alloc | apply pw_below_drewN | apply below_drew1) | exact HB.out)))); have n1_ := Aside0.mk (below_step (by repeat (first | (with_reducible first | exact HB.out | apply below_alloc | apply pw_below_drewN | apply below_drew1) | exact HB.out)) hb); clear HB; have HO130 := n0_; have HB := n1_; clear n0_ n1_; (try clear hb); (try clear hb2); (try clear hk); (try clear hi); (try clear ho0); obtain ⟨Ao36, co36, eo36⟩ := Kd.R_slice HO130.out; subst eo36) | ((with_reducible refine gate_callee (f := 17) rfl ?_); refine goesL_ (some 13) rfl rfl Try.func17 (by kernel_rfl) rfl #[.agg #[.bool t124, .int .i64 t125, .bool t126, .int .i64 t127, .slice Ao36 t128.length co36]] rfl (by (try simp only [List.map_toArray, List.map_cons, List.map_nil]); first | done | rfl | (simp only [List.length_drop, List.length_take]; rfl)) ?_; (with_reducible refine (frame_Head.calls t124 t125 t126 t127 _ _ t128 t131 _ ?side1 ?side2 A2.out).mono ?_); (case side1 => repeat (first | exact (Kd.R_reads' HO130.out).2.2 | (with_reducible refine Kd.C_alloc ?_ _) | (with_reducible refine Kd.C_drewN ?_ _) | (with_reducible refine Kd.C_drew ?_))); (case side2 => exact (Kd.R_reads' HO130.out).2.1); rintro e w37 ⟨v132, rfl, ho0, hb⟩; refine ⟨_, rfl, ?_⟩; have n0_ := Aside0.mk (Kd.R_below (by (with_reducible repeat (first | apply Kd.R_alloc | apply Kd.R_drewN | apply Kd.R_drew)); exact HO130.out) hb); have n1_ := Aside0.mk (Kd.R_lower ho0 (below_size (by repeat (first | (with_reducible first | exact HB.out | apply below_alloc | apply pw_below_drewN | apply below_drew1) | exact HB.out)))); have n2_ := Aside0.mk (below_step (by repeat (first | (with_reducible first | exact HB.out | apply below_alloc | apply pw_below_drewN | apply below_drew1) | exact HB.out)) hb); clear HO130; clear HB; have HO130 := n0_; have HO133 := n1_; have HB := n2_; clear n0_ n1_ n2_; (try clear hb); (try clear hb2); (try clear hk); (try clear hi); (try clear ho0)) | ((with_reducible refine gate_dst (N := 15) rfl ?_); (try (refine gate_guard (by rfl) ?_; dsimp only)); refine Kd.R_lit (Kd.int .i64) _ 3 ?hg (N := 15) ?hd (xs := ([] : List Int)) (inner := []) (ok := fun _ => True) (okp := fun _ => True) ?hr ?hp (fun _ hk => hk) trivial (Below.refl _ _) (Nat.le_refl _) (by simp) ?_; (case hd => rfl); (case hg => rfl); (case hr => first | (go_simp; done) | (go_simp; rfl)); (case hp => exact (Reps.none _ _)); intro v135 w38 ho39 hb hg_ hnew_; clear hg_ hnew_; (first | rw [← Ny134.out] at ho39 | (simp only [Int.reduceToNat] at ho39; rw [← Ny134.out] at ho39)); have n0_ := Aside0.mk (Kd.R_below (by (with_reducible repeat (first | apply Kd.R_alloc | apply Kd.R_drewN | apply Kd.R_drew)); exact HO130.out) hb); have n1_ := Aside0.mk (Kd.R_elder' (by (with_reducible repeat (first | apply Kd.R_alloc | apply Kd.R_drewN | apply Kd.R_drew)); exact HO133.out) (Kd.R_base ho39) hb); have n2_ := Aside0.mk (Kd.R_lower (Kd.R_new' ho39 (Kd.R_lt (by (with_reducible repeat (first | apply Kd.R_alloc | apply Kd.R_drewN | apply Kd.R_drew)); exact HO133.out))) (below_size (by repeat (first | (with_reducible first | exact HB.out | apply below_alloc | apply pw_below_drewN | apply below_drew1) | exact HB.out)))); have n3_ := Aside0.mk (below_step (by repeat (first | (with_reducible first | exact HB.out | apply below_alloc | apply pw_below_drewN | apply below_drew1) | exact HB.out)) hb); clear HO130; clear HO133; clear HB; have HO130 := n0_; have HO133 := n1_; have HO136 := n2_; have HB := n3_; clear n0_ n1_ n2_ n3_; clear hb ho39; obtain ⟨Ao41, co41, eo41⟩ := Kd.R_slice HO133.out; subst eo41) | ((with_reducible refine gate_builtin (b := .append) (xs := #[.tmp 15, .tmp 16]) rfl ?_); (try (refine gate_guard (by rfl) ?_; dsimp only)); at_builtin; refine Kd.R_append_rows (Kd.int .i64) (w0 := w) w.heap.size rfl (.tmp 15) (.tmp 16) 25 3 (.int .i64 0) 8 rfl Try.underlying25 info3 rfl (by decide) (by omega) v135 y134 t131 _ _ _ (fun k_ => some k_ ≠ (.slice Ao41 t131.length co41 : Value).ownBlock) (fun _ => False) rfl rfl ?aO ?aR (fun _ _ h => h) (fun _ h => h.elim) ?aF ?aB ?aS ?aL ?_; (case aR => repeat (first | exact (Kd.R_reads' HO133.out).2.2 | (with_reducible refine Kd.C_alloc ?_ _) | (with_reducible refine Kd.C_drewN ?_ _) | (with_reducible refine Kd.C_drew ?_))); (case aB => exact (by repeat (first | (with_reducible first | exact HB.out | apply below_alloc | apply pw_below_drewN | apply below_drew1) | exact HB.out))); (case aF => exact (fun k_ hk => Kd.fresh' (Kd.R_lt (by (with_reducible repeat (first | apply Kd.R_alloc | apply Kd.R_drewN | apply Kd.R_drew)); exact HO133.out)) k_ hk)); (case aO => exact (by (with_reducible repeat (first | apply Kd.R_alloc | apply Kd.R_drewN | apply Kd.R_drew)); exact Kd.R_mono HO136.out (fun _ hk => hk.2))); (case aS => exact (below_size (by repeat (first | (with_reducible first | exact HB.out | apply below_alloc | apply pw_below_drewN | apply below_drew1) | exact HB.out)))); (case aL => have := LMc3.out; omega); intro v138 w40 ho hb hg hat; rw [← Ny137.out] at ho; have n0_ := Aside0.mk (Kd.R_over' (by (with_reducible repeat (first | apply Kd.R_alloc | apply Kd.R_drewN | apply Kd.R_drew)); exact HO130.out) (Kd.R_typed (by (with_reducible repeat (first | apply Kd.R_alloc | apply Kd.R_drewN | apply Kd.R_drew)); exact HO136.out)) (by decide) hg); have n1_ := Aside0.mk (Kd.R_after (ok := (fun _ => True)) (by (with_reducible repeat (first | apply Kd.R_alloc | apply Kd.R_drewN | apply Kd.R_drew)); exact HO133.out) hg hat); have n2_ := Aside0.mk (hb); have n3_ := Aside0.mk (ho); clear HO130; clear HO133; clear HB; clear HO136; have HO130 := n0_; have HO133 := n1_; have HB := n2_; have HO139 := n3_; clear n0_ n1_ n2_ n3_; clear ho hb hg hat) | ((with_reducible refine gate_dst (N := 18) rfl ?_); (try (refine gate_guard (by rfl) ?_; dsimp only)); refine Kd.R_lit (Kd.int .i64) _ 3 ?hg (N := 18) ?hd (xs := ([1, 1] : List Int)) (inner := [.int .i64 1, .int .i64 1]) (ok := fun _ => True) (okp := fun _ => True) ?hr ?hp (fun _ hk => hk) trivial (Below.refl _ _) (Nat.le_refl _) (by simp) ?_; (case hd => rfl); (case hg => rfl); (case hr => first | (go_simp; done) | (go_simp; rfl)); (case hp => exact (Reps.one (show Kd.M (Kd.int .i64) _ _ _ 1 [.int .i64 1] from rfl) (Reps.one (show Kd.M (Kd.int .i64) _ _ _ 1 [.int .i64 1] from rfl) (Reps.none _ _)))); intro v141 w42 ho43 hb hg_ hnew_; clear hg_ hnew_; (first | rw [← Ny140.out] at ho43 | (simp only [Int.reduceToNat] at ho43; rw [← Ny140.out] at ho43)); have n0_ := Aside0.mk (Kd.R_below (by (with_reducible repeat (first | apply Kd.R_alloc | apply Kd.R_drewN | apply Kd.R_drew)); exact HO130.out) hb); have n1_ := Aside0.mk (Kd.R_elder' (by (with_reducible repeat (first | apply Kd.R_alloc | apply Kd.R_drewN | apply Kd.R_drew)); exact HO133.out) (Kd.R_base ho43) hb); have n2_ := Aside0.mk (Kd.R_elder' (by (with_reducible repeat (first | apply Kd.R_alloc | apply Kd.R_drewN | apply Kd.R_drew)); exact HO139.out) (Kd.R_base ho43) hb); have n3_ := Aside0.mk (Kd.R_lower (Kd.R_new' (Kd.R_new' ho43 (Kd.R_lt (by (with_reducible repeat (first | apply Kd.R_alloc | apply Kd.R_drewN | apply Kd.R_drew)); exact HO133.out))) (Kd.R_lt (by (with_reducible repeat (first | apply Kd.R_alloc | apply Kd.R_drewN | apply Kd.R_drew)); exact HO139.out))) (below_size (by repeat (first | (with_reducible first | exact HB.out | apply below_alloc | apply pw_below_drewN | apply below_drew1) | exact HB.out)))); have n4_ := Aside0.mk (below_step (by repeat (first | (with_reducible first | exact HB.out | apply below_alloc | apply pw_below_drewN | apply below_drew1) | exact HB.out)) hb); clear HO130; clear HO133; clear HO139; clear HB; have HO130 := n0_; have HO133 := n1_; have HO139 := n2_; have HO142 := n3_; have HB := n4_; clear n0_ n1_ n2_ n3_ n4_; clear hb ho43; obtain ⟨Ao45, co45, eo45⟩ := Kd.R_slice HO142.out; subst eo45) | ((with_reducible refine gate_builtin (b := .append) (xs := #[.tmp 17, .tmp 18]) rfl ?_); (try (refine gate_guard (by rfl) ?_; dsimp only)); at_builtin; refine Kd.R_append_rows (Kd.int .i64) (w0 := w) w.heap.size rfl (.tmp 17) (.tmp 18) 25 3 (.int .i64 0) 8 rfl Try.underlying25 info3 rfl (by decide) (by omega) v138 y137 y140 _ _ _ (fun k_ => some k_ ≠ (.slice Ao41 t131.length co41 : Value).ownBlock ∧ some k_ ≠ (.slice Ao45 y140.length co45 : Value).ownBlock) (fun _ => False) rfl rfl ?aO ?aR (fun _ _ h => h) (fun _ h => h.elim) ?aF ?aB ?aS ?aL ?_; (case aR => repeat (first | exact (Kd.R_reads' HO142.out).2.2 | (with_reducible refine Kd.C_alloc ?_ _) | (with_reducible refine Kd.C_drewN ?_ _) | (with_reducible refine Kd.C_drew ?_))); (case aB => exact (by repeat (first | (with_reducible first | exact HB.out | apply below_alloc | apply pw_below_drewN | apply below_drew1) | exact HB.out))); (case aF => exact (fun k_ hk => ⟨Kd.fresh' (Kd.R_lt (by (with_reducible repeat (first | apply Kd.R_alloc | apply Kd.R_drewN | apply Kd.R_drew)); exact HO133.out)) k_ hk, Kd.fresh' (Kd.R_lt (by (with_reducible repeat (first | apply Kd.R_alloc | apply Kd.R_drewN | apply Kd.R_drew)); exact HO142.out)) k_ hk⟩)); (case aO => exact (by (with_reducible repeat (first | apply Kd.R_alloc | apply Kd.R_drewN | apply Kd.R_drew)); exact HO139.out)); (case aS => exact (below_size (by repeat (first | (with_reducible first | exact HB.out | apply below_alloc | apply pw_below_drewN | apply below_drew1) | exact HB.out)))); (case aL => have := LMc4.out; omega); intro v144 w44 ho hb hg hat; rw [← Ny143.out] at ho; have n0_ := Aside0.mk (Kd.R_over' (by (with_reducible repeat (first | apply Kd.R_alloc | apply Kd.R_drewN | apply Kd.R_drew)); exact HO130.out) (Kd.R_typed (by (with_reducible repeat (first | apply Kd.R_alloc | apply Kd.R_drewN | apply Kd.R_drew)); exact HO139.out)) (by decide) hg); have n1_ := Aside0.mk (Kd.R_after (ok := (fun k_ => some k_ ≠ (.slice Ao45 y140.length co45 : Value).ownBlock)) (by (with_reducible repeat (first | apply Kd.R_alloc | apply Kd.R_drewN | apply Kd.R_drew)); exact Kd.R_mono HO133.out (fun _ hk => ⟨hk.2, hk.1.2⟩)) hg hat); have n2_ := Aside0.mk (Kd.R_after (ok := (fun k_ => some k_ ≠ (.slice Ao41 t131.length co41 : Value).ownBlock)) (by (with_reducible repeat (first | apply Kd.R_alloc | apply Kd.R_drewN | apply Kd.R_drew)); exact Kd.R_mono HO142.out (fun k_ hk => by first | exact ⟨hk.1.2, hk.2⟩ | (refine ⟨?_, ?_⟩ <;> first | exact hk.1 | exact hk.2 | exact hk.1.2 | exact hk.2.2 | exact hk.1.1 | exact hk.2.1))) hg hat); have n3_ := Aside0.mk (hb); have n4_ := Aside0.mk (ho); clear HO130; clear HO133; clear HO142; clear HB; clear HO139; have HO130 := n0_; have HO133 := n1_; have HO142 := n2_; have HB := n3_; have HO145 := n4_; clear n0_ n1_ n2_ n3_ n4_; clear ho hb hg hat; obtain ⟨Ao46, co46, eo46⟩ := Kd.R_slice HO145.out; subst eo46) | ((with_reducible refine gate_callee (f := 22) rfl ?_); refine goesL_ (some 20) rfl rfl Try.func22 (by kernel_rfl) rfl #[.slice Ao46 y143.length co46] rfl (by (try simp only [List.map_toArray, List.map_cons, List.map_nil]); first | done | rfl | (simp only [List.length_drop, List.length_take]; rfl)) ?_; (with_reducible refine (frame_Read.calls _ _ y143 t146 t147 t148 t149 t150 t153 t154 _ ?side1 ?side2 A5.out).mono ?_); (case side1 => repeat (first | exact (Kd.R_reads' HO145.out).2.2 | (with_reducible refine Kd.C_alloc ?_ _) | (with_reducible refine Kd.C_drewN ?_ _) | (with_reducible refine Kd.C_drew ?_))); (case side2 => exact (Kd.R_reads' HO145.out).2.1); rintro e w47 ⟨v151, rfl, ho0, hb⟩; refine ⟨_, rfl, ?_⟩; have n0_ := Aside0.mk (Kd.R_elder' (by (with_reducible repeat (first | apply Kd.R_alloc | apply Kd.R_drewN | apply Kd.R_drew)); exact HO130.out) (Kd.R_base ho0) hb); have n1_ := Aside0.mk (Kd.R_below (by (with_reducible repeat (first | apply Kd.R_alloc | apply Kd.R_drewN | apply Kd.R_drew)); exact HO133.out) hb); have n2_ := Aside0.mk (Kd.R_below (by (with_reducible repeat (first | apply Kd.R_alloc | apply Kd.R_drewN | apply Kd.R_drew)); exact HO142.out) hb); have n3_ := Aside0.mk (Kd.R_below (by (with_reducible repeat (first | apply Kd.R_alloc | apply Kd.R_drewN | apply Kd.R_drew)); exact HO145.out) hb); have n4_ := Aside0.mk (Kd.R_lower (Kd.R_new' ho0 (Kd.R_lt (by (with_reducible repeat (first | apply Kd.R_alloc | apply Kd.R_drewN | apply Kd.R_drew)); exact HO130.out))) (below_size (by repeat (first | (with_reducible first | exact HB.out | apply below_alloc | apply pw_below_drewN | apply below_drew1) | exact HB.out)))); have n5_ := Aside0.mk (below_step (by repeat (first | (with_reducible first | exact HB.out | apply below_alloc | apply pw_below_drewN | apply below_drew1) | exact HB.out)) hb); clear HO130; clear HO133; clear HO142; clear HO145; clear HB; have HO130 := n0_; have HO133 := n1_; have HO142 := n2_; have HO145 := n3_; have HO152 := n4_; have HB := n5_; clear n0_ n1_ n2_ n3_ n4_ n5_; (try clear hb); (try clear hb2); (try clear hk); (try clear hi); (try clear ho0)) | ((with_reducible refine gate_dst (N := 2) rfl ?_); (try (refine gate_guard (by rfl) ?_; dsimp only)); refine box_event ?hg (N := 2) ?hd (cs := #[.bool false, .int .i64 0, .bool false, .int .i64 0, .slice none 0 0]) (t := 24) ?hr ?_; (case hd => rfl); (case hg => rfl); (case hr => first | (go_simp; done) | (go_simp; rfl)); intro gb155 hg w48 hbox hb; have n0_ := Aside0.mk (Kd.R_below (by (with_reducible repeat (first | apply Kd.R_alloc | apply Kd.R_drewN | apply Kd.R_drew)); exact HO130.out) hb); have n1_ := Aside0.mk (Kd.R_below (by (with_reducible repeat (first | apply Kd.R_alloc | apply Kd.R_drewN | apply Kd.R_drew)); exact HO133.out) hb); have n2_ := Aside0.mk (Kd.R_below (by (with_reducible repeat (first | apply Kd.R_alloc | apply Kd.R_drewN | apply Kd.R_drew)); exact HO142.out) hb); have n3_ := Aside0.mk (Kd.R_below (by (with_reducible repeat (first | apply Kd.R_alloc | apply Kd.R_drewN | apply Kd.R_drew)); exact HO145.out) hb); have n4_ := Aside0.mk (Kd.R_below (by (with_reducible repeat (first | apply Kd.R_alloc | apply Kd.R_drewN | apply Kd.R_drew)); exact HO152.out) hb); have n5_ := Aside0.mk (below_step (by repeat (first | (with_reducible first | exact HB.out | apply below_alloc | apply pw_below_drewN | apply below_drew1) | exact HB.out)) hb); have n6_ := Aside0.mk (hbox); have n7_ := Aside0.mk ((by rw [hg]; exact (below_size (by repeat (first | (with_reducible first | exact HB.out | apply below_alloc | apply pw_below_drewN | apply below_drew1) | exact HB.out))) : w.heap.size ≤ gb155)); have n8_ := Aside0.mk ((by rw [hg]; exact (below_size (by repeat (first | (with_reducible first | exact HB.out | apply below_alloc | apply pw_below_drewN | apply below_drew1) | exact HB.out))) : w.heap.size ≤ gb155)); clear HO130; clear HO133; clear HO142; clear HO145; clear HO152; clear HB; have HO130 := n0_; have HO133 := n1_; have HO142 := n2_; have HO145 := n3_; have HO152 := n4_; have HB := n5_; have BK155 := n6_; have GW155 := n7_; have GE155 := n8_; clear n0_ n1_ n2_ n3_ n4_ n5_ n6_ n7_ n8_; clear hb hbox hg; have hcz49_0 : w48.cell? ⟨gb155, 0, none⟩ = some (.bool false) := (blk_cell BK155.out 0).trans rfl; have hcz49_1 : w48.cell? ⟨gb155, 1, none⟩ = some (.int .i64 0) := (blk_cell BK155.out 1).trans rfl; have hcz49_2 : w48.cell? ⟨gb155, 2, none⟩ = some (.bool false) := (blk_cell BK155.out 2).trans rfl; have hcz49_3 : w48.cell? ⟨gb155, 3, none⟩ = some (.int .i64 0) := (blk_cell BK155.out 3).trans rfl; have hcz49_4 : w48.cell? ⟨gb155, 4, none⟩ = some (.slice none 0 0) := (blk_cell BK155.out 4).trans rfl; have hfz49_0 := blk_frozen BK155.out 0; have hfz49_1 := blk_frozen BK155.out 1; have hfz49_2 := blk_frozen BK155.out 2; have hfz49_3 := blk_frozen BK155.out 3; have hfz49_4 := blk_frozen BK155.out 4; obtain ⟨Ao50, co50, eo50⟩ := Kd.R_slice HO152.out; subst eo50) | ((with_reducible refine gate_store (t := 24) (p := 2) rfl ?_); refine HW.store_box rfl rfl 24 _ _ rfl rfl rfl BK155.out rfl (by kernel_rfl) (by intro q hq; simp only [List.mem_cons, List.not_mem_nil, or_false] at hq; rcases hq with rfl | rfl | rfl | rfl | rfl <;> rfl) ?_; intro w51 hw; simp only [List.toList_toArray, World.setCells, Nat.zero_add, Nat.reduceAdd] at hw; have n0_ : Aside0 (Kd.R (Kd.int .u8) 5 w51 w.heap.size (fun k_ => some k_ ≠ (.slice Ao50 t150.length co50 : Value).ownBlock) (.slice Ao36 t128.length co36) t128) := ⟨(by rw [hw]; exact (by (with_reducible repeat (first | apply Kd.R_alloc | apply Kd.R_drewN | apply Kd.R_drew)); exact Kd.R_mono (Kd.R_far (p := ⟨gb155, 4, none⟩) (Kd.R_far (p := ⟨gb155, 3, none⟩) (Kd.R_far (p := ⟨gb155, 2, none⟩) (Kd.R_far (p := ⟨gb155, 1, none⟩) (Kd.R_far (p := ⟨gb155, 0, none⟩) (Kd.R_types HO130.out BK155.out (by decide)) (fun _ hk => hk.2) (.bool t146)) (fun _ hk => hk.2) (.int .i64 t147)) (fun _ hk => hk.2) (.bool t148)) (fun _ hk => hk.2) (.int .i64 t149)) (fun _ hk => hk.2) (.slice Ao50 t150.length co50)) (fun _ hk => hk.1.2)))⟩; have n1_ : Aside0 (Kd.R (Kd.int .i64) 3 w51 w.heap.size (fun k_ => some k_ ≠ (.slice Ao45 y140.length co45 : Value).ownBlock ∧ some k_ ≠ (.slice Ao46 y143.length co46 : Value).ownBlock) (.slice Ao41 t131.length co41) t131) := ⟨(by rw [hw]; exact (by (with_reducible repeat (first | apply Kd.R_alloc | apply Kd.R_drewN | apply Kd.R_drew)); exact Kd.R_mono (Kd.R_far (p := ⟨gb155, 4, none⟩) (Kd.R_far (p := ⟨gb155, 3, none⟩) (Kd.R_far (p := ⟨gb155, 2, none⟩) (Kd.R_far (p := ⟨gb155, 1, none⟩) (Kd.R_far (p := ⟨gb155, 0, none⟩) (Kd.R_types HO133.out BK155.out (by decide)) (fun _ hk => hk.2) (.bool t146)) (fun _ hk => hk.2) (.int .i64 t147)) (fun _ hk => hk.2) (.bool t148)) (fun _ hk => hk.2) (.int .i64 t149)) (fun _ hk => hk.2) (.slice Ao50 t150.length co50)) (fun _ hk => ⟨hk.1.1, hk.1.2⟩)))⟩; have n2_ : Aside0 (Kd.R (Kd.int .i64) 3 w51 w.heap.size (fun k_ => some k_ ≠ (.slice Ao41 t131.length co41 : Value).ownBlock ∧ some k_ ≠ (.slice Ao46 y143.length co46 : Value).ownBlock) (.slice Ao45 y140.length co45) y140) := ⟨(by rw [hw]; exact (by (with_reducible repeat (first | apply Kd.R_alloc | apply Kd.R_drewN | apply Kd.R_drew)); exact Kd.R_mono (Kd.R_far (p := ⟨gb155, 4, none⟩) (Kd.R_far (p := ⟨gb155, 3, none⟩) (Kd.R_far (p := ⟨gb155, 2, none⟩) (Kd.R_far (p := ⟨gb155, 1, none⟩) (Kd.R_far (p := ⟨gb155, 0, none⟩) (Kd.R_types HO142.out BK155.out (by decide)) (fun _ hk => hk.2) (.bool t146)) (fun _ hk => hk.2) (.int .i64 t147)) (fun _ hk => hk.2) (.bool t148)) (fun _ hk => hk.2) (.int .i64 t149)) (fun _ hk => hk.2) (.slice Ao50 t150.length co50)) (fun _ hk => ⟨hk.1.1, hk.1.2⟩)))⟩; have n3_ : Aside0 (Kd.R (Kd.int .i64) 3 w51 w.heap.size (fun k_ => some k_ ≠ (.slice Ao41 t131.length co41 : Value).ownBlock ∧ some k_ ≠ (.slice Ao45 y140.length co45 : Value).ownBlock) (.slice Ao46 y143.length co46) y143) := ⟨(by rw [hw]; exact (by (with_reducible repeat (first | apply Kd.R_alloc | apply Kd.R_drewN | apply Kd.R_drew)); exact Kd.R_mono (Kd.R_far (p := ⟨gb155, 4, none⟩) (Kd.R_far (p := ⟨gb155, 3, none⟩) (Kd.R_far (p := ⟨gb155, 2, none⟩) (Kd.R_far (p := ⟨gb155, 1, none⟩) (Kd.R_far (p := ⟨gb155, 0, none⟩) (Kd.R_types HO145.out BK155.out (by decide)) (fun _ hk => hk.2) (.bool t146)) (fun _ hk => hk.2) (.int .i64 t147)) (fun _ hk => hk.2) (.bool t148)) (fun _ hk => hk.2) (.int .i64 t149)) (fun _ hk => hk.2) (.slice Ao50 t150.length co50)) (fun _ hk => ⟨hk.1.1, hk.1.2⟩)))⟩; have n4_ : Aside0 (Kd.R (Kd.int .u8) 5 w51 w.heap.size (fun k_ => some k_ ≠ (.slice Ao36 t128.length co36 : Value).ownBlock) (.slice Ao50 t150.length co50) t150) := ⟨(by rw [hw]; exact (by (with_reducible repeat (first | apply Kd.R_alloc | apply Kd.R_drewN | apply Kd.R_drew)); exact Kd.R_mono (Kd.R_far (p := ⟨gb155, 4, none⟩) (Kd.R_far (p := ⟨gb155, 3, none⟩) (Kd.R_far (p := ⟨gb155, 2, none⟩) (Kd.R_far (p := ⟨gb155, 1, none⟩) (Kd.R_far (p := ⟨gb155, 0, none⟩) (Kd.R_types HO152.out BK155.out (by decide)) (fun _ hk => hk.2) (.bool t146)) (fun _ hk => hk.2) (.int .i64 t147)) (fun _ hk => hk.2) (.bool t148)) (fun _ hk => hk.2) (.int .i64 t149)) (fun _ hk => hk.2) (.slice Ao50 t150.length co50)) (fun _ hk => hk.1.2)))⟩; have n5_ : Aside0 (w51.heap[gb155]? = some (.cells #[.bool t146, .int .i64 t147, .bool t148, .int .i64 t149, .slice Ao50 t150.length co50] 24 (0, 0))) := ⟨(by rw [hw]; exact (by (with_reducible repeat (first | refine blk_drewN ?_ _ | refine blk_drew ?_ | refine blk_alloc ?_ _)); refine HW.blk_put5 (cs := #[.bool false, .int .i64 0, .bool false, .int .i64 0, .slice none 0 0]) ?_ rfl; (with_reducible repeat (first | refine blk_drewN ?_ _ | refine blk_drew ?_ | refine blk_alloc ?_ _)); exact BK155.out))⟩; have n6_ : Aside0 (Below w.heap.size w w51) := ⟨(by rw [hw]; exact (by repeat (first | (with_reducible first | exact HB.out | apply below_alloc | apply pw_below_drewN | apply below_drew1 | refine below_set ?_ GE155.out) | exact HB.out)))⟩; clear hw; clear HO130; clear HO133; clear HO142; clear HO145; clear HO152; clear BK155; clear HB; have HO130 := n0_; have HO133 := n1_; have HO142 := n2_; have HO145 := n3_; have HO152 := n4_; have BK155 := n5_; have HB := n6_; clear n0_ n1_ n2_ n3_ n4_ n5_ n6_; have q52 : ((ji6) : Int) ≤ ((t131.length : Int) : Int) := of_decide_eq_true (by first | (with_reducible assumption) | assumption); obtain ⟨i052, hi052, _, hsz52, _⟩ := info_parts info3; have hroom52 : t131.length ≤ co41 := (Kd.R_reads' HO133.out).2.1; have hC52 : Kd.C (Kd.int .i64) _ Ao41 t131.length t131 := (Kd.R_reads' HO133.out).2.2; have hcut52 := cut_to (P := Try.prog) 25 3 .i64 Try.underlying25 hi052 Ao41 t131.length co41 (ji6) (of_decide_eq_true (by first | (with_reducible assumption) | assumption)) q52 hroom52; have hr52 := Kd.C_take (m := ((ji6) : Int).toNat) hC52 (by omega); have hy52 : y156.length = ((ji6) : Int).toNat := (by rw [Ny156.out, List.length_take]; omega); rw [← Ny156.out] at hr52; rw [← hy52] at hcut52; have HR159 := Aside0.mk hr52; have HC159 := Aside0.mk (show y156.length ≤ co41 from by omega); clear hr52 hC52 hroom52 hi052 hsz52; have KY52 := Aside0.mk hy52; clear hy52; have KL52 := Aside0.mk (show ((ji6) : Int).toNat ≤ t131.length from by omega); replace q52 := eq_true q52) | ((with_reducible refine gate_callee (f := 22) rfl ?_); refine goesL_ (some 30) rfl rfl Try.func22 (by kernel_rfl) rfl #[.slice Ao41 y156.length co41] rfl (by (try simp only [List.map_toArray, List.map_cons, List.map_nil]); first | done | rfl | (simp only [List.length_drop, List.length_take]; rfl)) ?_; (with_reducible refine (frame_Read.calls _ _ y156 t160 t161 t162 t163 t164 t167 t168 _ ?side1 ?side2 A9.out).mono ?_); (case side1 => repeat (first | exact (by repeat (first | (with_reducible exact HR159.out) | (with_reducible refine Kd.C_alloc ?_ _) | (with_reducible refine Kd.C_drewN ?_ _) | (with_reducible refine Kd.C_drew ?_) | exact HR159.out)) | (with_reducible refine Kd.C_alloc ?_ _) | (with_reducible refine Kd.C_drewN ?_ _) | (with_reducible refine Kd.C_drew ?_))); (case side2 => exact HC159.out); rintro e w53 ⟨v165, rfl, ho0, hb⟩; refine ⟨_, rfl, ?_⟩; have n0_ := Aside0.mk (Kd.R_elder' (by (with_reducible repeat (first | apply Kd.R_alloc | apply Kd.R_drewN | apply Kd.R_drew)); exact HO130.out) (Kd.R_base ho0) hb); have n1_ := Aside0.mk (Kd.R_below (by (with_reducible repeat (first | apply Kd.R_alloc | apply Kd.R_drewN | apply Kd.R_drew)); exact HO133.out) hb); have n2_ := Aside0.mk (Kd.R_below (by (with_reducible repeat (first | apply Kd.R_alloc | apply Kd.R_drewN | apply Kd.R_drew)); exact HO142.out) hb); have n3_ := Aside0.mk (Kd.R_below (by (with_reducible repeat (first | apply Kd.R_alloc | apply Kd.R_drewN | apply Kd.R_drew)); exact HO145.out) hb); have n4_ := Aside0.mk (Kd.R_elder' (by (with_reducible repeat (first | apply Kd.R_alloc | apply Kd.R_drewN | apply Kd.R_drew)); exact HO152.out) (Kd.R_base ho0) hb); have n5_ := Aside0.mk (Kd.R_lower (Kd.R_new' (Kd.R_new' ho0 (Kd.R_lt (by (with_reducible repeat (first | apply Kd.R_alloc | apply Kd.R_drewN | apply Kd.R_drew)); exact HO130.out))) (Kd.R_lt (by (with_reducible repeat (first | apply Kd.R_alloc | apply Kd.R_drewN | apply Kd.R_drew)); exact HO152.out))) (below_size (by repeat (first | (with_reducible first | exact HB.out | apply below_alloc | apply pw_below_drewN | apply below_drew1 | refine below_set ?_ GE155.out) | exact HB.out)))); have n6_ := Aside0.mk (blk_below (g := gb155) (o := .cells #[.bool t146, .int .i64 t147, .bool t148, .int .i64 t149, .slice Ao50 t150.length co50] 24 (0, 0)) (by (with_reducible repeat (first | refine blk_drewN ?_ _ | refine blk_drew ?_ | refine blk_alloc ?_ _)); exact BK155.out) hb); have n7_ := Aside0.mk (Kd.C_below (by repeat (first | (with_reducible exact HR159.out) | (with_reducible refine Kd.C_alloc ?_ _) | (with_reducible refine Kd.C_drewN ?_ _) | (with_reducible refine Kd.C_drew ?_) | exact HR159.out)) hb); have n8_ := Aside0.mk (below_step (by repeat (first | (with_reducible first | exact HB.out | apply below_alloc | apply pw_below_drewN | apply below_drew1 | refine below_set ?_ GE155.out) | exact HB.out)) hb); clear HO130; clear HO133; clear HO142; clear HO145; clear HO152; clear BK155; clear HR159; clear HB; have HO130 := n0_; have HO133 := n1_; have HO142 := n2_; have HO145 := n3_; have HO152 := n4_; have HO166 := n5_; have BK155 := n6_; have HR159 := n7_; have HB := n8_; clear n0_ n1_ n2_ n3_ n4_ n5_ n6_ n7_ n8_; (try clear hb); (try clear hb2); (try clear hk); (try clear hi); (try clear ho0)) | ((with_reducible refine gate_dst (N := 5) rfl ?_); (try (refine gate_guard (by rfl) ?_; dsimp only)); refine box_event ?hg (N := 5) ?hd (cs := #[.bool false, .int .i64 0, .bool false, .int .i64 0, .slice none 0 0]) (t := 24) ?hr ?_; (case hd => rfl); (case hg => rfl); (case hr => first | (go_simp; done) | (go_simp; rfl)); intro gb169 hg w54 hbox hb; have n0_ := Aside0.mk (Kd.R_below (by (with_reducible repeat (first | apply Kd.R_alloc | apply Kd.R_drewN | apply Kd.R_drew)); exact HO130.out) hb); have n1_ := Aside0.mk (Kd.R_below (by (with_reducible repeat (first | apply Kd.R_alloc | apply Kd.R_drewN | apply Kd.R_drew)); exact HO133.out) hb); have n2_ := Aside0.mk (Kd.R_below (by (with_reducible repeat (first | apply Kd.R_alloc | apply Kd.R_drewN | apply Kd.R_drew)); exact HO142.out) hb); have n3_ := Aside0.mk (Kd.R_below (by (with_reducible repeat (first | apply Kd.R_alloc | apply Kd.R_drewN | apply Kd.R_drew)); exact HO145.out) hb); have n4_ := Aside0.mk (Kd.R_below (by (with_reducible repeat (first | apply Kd.R_alloc | apply Kd.R_drewN | apply Kd.R_drew)); exact HO152.out) hb); have n5_ := Aside0.mk (Kd.R_below (by (with_reducible repeat (first | apply Kd.R_alloc | apply Kd.R_drewN | apply Kd.R_drew)); exact HO166.out) hb); have n6_ := Aside0.mk (blk_below (g := gb155) (o := .cells #[.bool t146, .int .i64 t147, .bool t148, .int .i64 t149, .slice Ao50 t150.length co50] 24 (0, 0)) (by (with_reducible repeat (first | refine blk_drewN ?_ _ | refine blk_drew ?_ | refine blk_alloc ?_ _)); exact BK155.out) hb); have n7_ := Aside0.mk (Kd.C_below (by repeat (first | (with_reducible exact HR159.out) | (with_reducible refine Kd.C_alloc ?_ _) | (with_reducible refine Kd.C_drewN ?_ _) | (with_reducible refine Kd.C_drew ?_) | exact HR159.out)) hb); have n8_ := Aside0.mk (below_step (by repeat (first | (with_reducible first | exact HB.out | apply below_alloc | apply pw_below_drewN | apply below_drew1 | refine below_set ?_ GE155.out) | exact HB.out)) hb); have n9_ := Aside0.mk (hbox); have n10_ := Aside0.mk ((by rw [hg]; exact (below_size (by repeat (first | (with_reducible first | exact HB.out | apply below_alloc | apply pw_below_drewN | apply below_drew1 | refine below_set ?_ GE155.out) | exact HB.out))) : w.heap.size ≤ gb169)); have n11_ := Aside0.mk ((by rw [hg]; exact (below_size (by repeat (first | (with_reducible first | exact HB.out | apply below_alloc | apply pw_below_drewN | apply below_drew1 | refine below_set ?_ GE155.out) | exact HB.out))) : w.heap.size ≤ gb169)); have n12_ := Aside0.mk ((by rw [hg]; exact Nat.ne_of_lt (blk_lt (g := gb155) (o := .cells #[.bool t146, .int .i64 t147, .bool t148, .int .i64 t149, .slice Ao50 t150.length co50] 24 (0, 0)) (by (with_reducible repeat (first | refine blk_drewN ?_ _ | refine blk_drew ?_ | refine blk_alloc ?_ _)); exact BK155.out)) : gb155 ≠ gb169)); have n13_ := Aside0.mk ((by rw [hg]; exact Nat.ne_of_gt (blk_lt (g := gb155) (o := .cells #[.bool t146, .int .i64 t147, .bool t148, .int .i64 t149, .slice Ao50 t150.length co50] 24 (0, 0)) (by (with_reducible repeat (first | refine blk_drewN ?_ _ | refine blk_drew ?_ | refine blk_alloc ?_ _)); exact BK155.out)) : gb169 ≠ gb155)); clear HO130; clear HO133; clear HO142; clear HO145; clear HO152; clear HO166; clear BK155; clear HR159; clear HB; have HO130 := n0_; have HO133 := n1_; have HO142 := n2_; have HO145 := n3_; have HO152 := n4_; have HO166 := n5_; have BK155 := n6_; have HR159 := n7_; have HB := n8_; have BK169 := n9_; have GW169 := n10_; have GE169 := n11_; have NB155_169 := n12_; have NB169_155 := n13_; clear n0_ n1_ n2_ n3_ n4_ n5_ n6_ n7_ n8_ n9_ n10_ n11_ n12_ n13_; clear hb hbox hg; have hnb55 := NB169_155.out; have hnc55 := NB155_169.out; have hcz56_0 : w54.cell? ⟨gb169, 0, none⟩ = some (.bool false) := (blk_cell BK169.out 0).trans rfl; have hcz56_1 : w54.cell? ⟨gb169, 1, none⟩ = some (.int .i64 0) := (blk_cell BK169.out 1).trans rfl; have hcz56_2 : w54.cell? ⟨gb169, 2, none⟩ = some (.bool false) := (blk_cell BK169.out 2).trans rfl; have hcz56_3 : w54.cell? ⟨gb169, 3, none⟩ = some (.int .i64 0) := (blk_cell BK169.out 3).trans rfl; have hcz56_4 : w54.cell? ⟨gb169, 4, none⟩ = some (.slice none 0 0) := (blk_cell BK169.out 4).trans rfl; have hfz56_0 := blk_frozen BK169.out 0; have hfz56_1 := blk_frozen BK169.out 1; have hfz56_2 := blk_frozen BK169.out 2; have hfz56_3 := blk_frozen BK169.out 3; have hfz56_4 := blk_frozen BK169.out 4; obtain ⟨Ao57, co57, eo57⟩ := Kd.R_slice HO166.out; subst eo57) | ((with_reducible refine gate_dst (N := 35) rfl ?_); (try (refine gate_guard (by rfl) ?_; dsimp only)); refine Kd.R_lit (Kd.int .i64) _ 3 ?hg (N := 35) ?hd (xs := ([1] : List Int)) (inner := [.int .i64 1]) (ok := fun _ => True) (okp := fun _ => True) ?hr ?hp (fun _ hk => hk) trivial (Below.refl _ _) (Nat.le_refl _) (by simp) ?_; (case hd => rfl); (case hg => rfl); (case hr => first | (go_simp; done) | (go_simp; rfl)); (case hp => exact (Reps.one (show Kd.M (Kd.int .i64) _ _ _ 1 [.int .i64 1] from rfl) (Reps.none _ _))); intro v171 w58 ho59 hb hg_ hnew_; clear hg_ hnew_; (first | rw [← Ny170.out] at ho59 | (simp only [Int.reduceToNat] at ho59; rw [← Ny170.out] at ho59)); have n0_ := Aside0.mk (Kd.R_below (by (with_reducible repeat (first | apply Kd.R_alloc | apply Kd.R_drewN | apply Kd.R_drew)); exact (HW.R_far5 HO130.out BK169.out (by decide))) hb); have n1_ := Aside0.mk (Kd.R_elder' (by (with_reducible repeat (first | apply Kd.R_alloc | apply Kd.R_drewN | apply Kd.R_drew)); exact (HW.R_far5 HO133.out BK169.out (by decide))) (Kd.R_base ho59) hb); have n2_ := Aside0.mk (Kd.R_elder' (by (with_reducible repeat (first | apply Kd.R_alloc | apply Kd.R_drewN | apply Kd.R_drew)); exact (HW.R_far5 HO142.out BK169.out (by decide))) (Kd.R_base ho59) hb); have n3_ := Aside0.mk (Kd.R_elder' (by (with_reducible repeat (first | apply Kd.R_alloc | apply Kd.R_drewN | apply Kd.R_drew)); exact (HW.R_far5 HO145.out BK169.out (by decide))) (Kd.R_base ho59) hb); have n4_ := Aside0.mk (Kd.R_below (by (with_reducible repeat (first | apply Kd.R_alloc | apply Kd.R_drewN | apply Kd.R_drew)); exact (HW.R_far5 HO152.out BK169.out (by decide))) hb); have n5_ := Aside0.mk (Kd.R_below (by (with_reducible repeat (first | apply Kd.R_alloc | apply Kd.R_drewN | apply Kd.R_drew)); exact (HW.R_far5 HO166.out BK169.out (by decide))) hb); have n6_ := Aside0.mk (Kd.R_lower (Kd.R_new' (Kd.R_new' (Kd.R_new' ho59 (Kd.R_lt (by (with_reducible repeat (first | apply Kd.R_alloc | apply Kd.R_drewN | apply Kd.R_drew)); exact (HW.R_far5 HO133.out BK169.out (by decide))))) (Kd.R_lt (by (with_reducible repeat (first | apply Kd.R_alloc | apply Kd.R_drewN | apply Kd.R_drew)); exact (HW.R_far5 HO142.out BK169.out (by decide))))) (Kd.R_lt (by (with_reducible repeat (first | apply Kd.R_alloc | apply Kd.R_drewN | apply Kd.R_drew)); exact (HW.R_far5 HO145.out BK169.out (by decide))))) (below_size (by repeat (first | (with_reducible first | exact HB.out | apply below_alloc | apply pw_below_drewN | apply below_drew1 | refine below_set ?_ GE155.out | refine below_set ?_ GE169.out) | exact HB.out)))); have n7_ := Aside0.mk (blk_below (g := gb155) (o := .cells #[.bool t146, .int .i64 t147, .bool t148, .int .i64 t149, .slice Ao50 t150.length co50] 24 (0, 0)) (by (with_reducible repeat (first | refine blk_drewN ?_ _ | refine blk_drew ?_ | refine blk_alloc ?_ _)); refine HW.blk_far5 ?_ NB155_169.out; (with_reducible repeat (first | refine blk_drewN ?_ _ | refine blk_drew ?_ | refine blk_alloc ?_ _)); exact BK155.out) hb); have n8_ := Aside0.mk (blk_below (g := gb169) (o := .cells #[.bool t160, .int .i64 t161, .bool t162, .int .i64 t163, .slice Ao57 t164.length co57] 24 (0, 0)) (by (with_reducible repeat (first | refine blk_drewN ?_ _ | refine blk_drew ?_ | refine blk_alloc ?_ _)); refine HW.blk_put5 (cs := #[.bool false, .int .i64 0, .bool false, .int .i64 0, .slice none 0 0]) ?_ rfl; (with_reducible repeat (first | refine blk_drewN ?_ _ | refine blk_drew ?_ | refine blk_alloc ?_ _)); exact BK169.out) hb); have n9_ := Aside0.mk (below_step (by repeat (first | (with_reducible first | exact HB.out | apply below_alloc | apply pw_below_drewN | apply below_drew1 | refine below_set ?_ GE155.out | refine below_set ?_ GE169.out) | exact HB.out)) hb); clear HO130; clear HO133; clear HO142; clear HO145; clear HO152; clear HO166; clear BK155; clear BK169; clear HB; have HO130 := n0_; have HO133 := n1_; have HO142 := n2_; have HO145 := n3_; have HO152 := n4_; have HO166 := n5_; have HO172 := n6_; have BK155 := n7_; have BK169 := n8_; have HB := n9_; clear n0_ n1_ n2_ n3_ n4_ n5_ n6_ n7_ n8_ n9_; clear hb ho59; obtain ⟨Ao60, co60, eo60⟩ := Kd.R_slice HO172.out; subst eo60) | ((with_reducible refine gate_callee (f := 22) rfl ?_); refine goesL_ (some 36) rfl rfl Try.func22 (by kernel_rfl) rfl #[.slice Ao60 y170.length co60] rfl (by (try simp only [List.map_toArray, List.map_cons, List.map_nil]); first | done | rfl | (simp only [List.length_drop, List.length_take]; rfl)) ?_; (with_reducible refine (frame_Read.calls _ _ y170 t173 t174 t175 t176 t177 t180 t181 _ ?side1 ?side2 A10.out).mono ?_); (case side1 => repeat (first | exact (Kd.R_reads' HO172.out).2.2 | (with_reducible refine Kd.C_alloc ?_ _) | (with_reducible refine Kd.C_drewN ?_ _) | (with_reducible refine Kd.C_drew ?_))); (case side2 => exact (Kd.R_reads' HO172.out).2.1); rintro e w61 ⟨v178, rfl, ho0, hb⟩; refine ⟨_, rfl, ?_⟩; have n0_ := Aside0.mk (Kd.R_elder' (by (with_reducible repeat (first | apply Kd.R_alloc | apply Kd.R_drewN | apply Kd.R_drew)); exact HO130.out) (Kd.R_base ho0) hb); have n1_ := Aside0.mk (Kd.R_below (by (with_reducible repeat (first | apply Kd.R_alloc | apply Kd.R_drewN | apply Kd.R_drew)); exact HO133.out) hb); have n2_ := Aside0.mk (Kd.R_below (by (with_reducible repeat (first | apply Kd.R_alloc | apply Kd.R_drewN | apply Kd.R_drew)); exact HO142.out) hb); have n3_ := Aside0.mk (Kd.R_below (by (with_reducible repeat (first | apply Kd.R_alloc | apply Kd.R_drewN | apply Kd.R_drew)); exact HO145.out) hb); have n4_ := Aside0.mk (Kd.R_elder' (by (with_reducible repeat (first | apply Kd.R_alloc | apply Kd.R_drewN | apply Kd.R_drew)); exact HO152.out) (Kd.R_base ho0) hb); have n5_ := Aside0.mk (Kd.R_elder' (by (with_reducible repeat (first | apply Kd.R_alloc | apply Kd.R_drewN | apply Kd.R_drew)); exact HO166.out) (Kd.R_base ho0) hb); have n6_ := Aside0.mk (Kd.R_below (by (with_reducible repeat (first | apply Kd.R_alloc | apply Kd.R_drewN | apply Kd.R_drew)); exact HO172.out) hb); have n7_ := Aside0.mk (Kd.R_lower (Kd.R_new' (Kd.R_new' (Kd.R_new' ho0 (Kd.R_lt (by (with_reducible repeat (first | apply Kd.R_alloc | apply Kd.R_drewN | apply Kd.R_drew)); exact HO130.out))) (Kd.R_lt (by (with_reducible repeat (first | apply Kd.R_alloc | apply Kd.R_drewN | apply Kd.R_drew)); exact HO152.out))) (Kd.R_lt (by (with_reducible repeat (first | apply Kd.R_alloc | apply Kd.R_drewN | apply Kd.R_drew)); exact HO166.out))) (below_size (by repeat (first | (with_reducible first | exact HB.out | apply below_alloc | apply pw_below_drewN | apply below_drew1 | refine below_set ?_ GE155.out | refine below_set ?_ GE169.out) | exact HB.out)))); have n8_ := Aside0.mk (blk_below (g := gb155) (o := .cells #[.bool t146, .int .i64 t147, .bool t148, .int .i64 t149, .slice Ao50 t150.length co50] 24 (0, 0)) (by (with_reducible repeat (first | refine blk_drewN ?_ _ | refine blk_drew ?_ | refine blk_alloc ?_ _)); exact BK155.out) hb); have n9_ := Aside0.mk (blk_below (g := gb169) (o := .cells #[.bool t160, .int .i64 t161, .bool t162, .int .i64 t163, .slice Ao57 t164.length co57] 24 (0, 0)) (by (with_reducible repeat (first | refine blk_drewN ?_ _ | refine blk_drew ?_ | refine blk_alloc ?_ _)); exact BK169.out) hb); have n10_ := Aside0.mk (below_step (by repeat (first | (with_reducible first | exact HB.out | apply below_alloc | apply pw_below_drewN | apply below_drew1 | refine below_set ?_ GE155.out | refine below_set ?_ GE169.out) | exact HB.out)) hb); clear HO130; clear HO133; clear HO142; clear HO145; clear HO152; clear HO166; clear HO172; clear BK155; clear BK169; clear HB; have HO130 := n0_; have HO133 := n1_; have HO142 := n2_; have HO145 := n3_; have HO152 := n4_; have HO166 := n5_; have HO172 := n6_; have HO179 := n7_; have BK155 := n8_; have BK169 := n9_; have HB := n10_; clear n0_ n1_ n2_ n3_ n4_ n5_ n6_ n7_ n8_ n9_ n10_; (try clear hb); (try clear hb2); (try clear hk); (try clear hi); (try clear ho0)) | ((with_reducible refine gate_dst (N := 8) rfl ?_); (try (refine gate_guard (by rfl) ?_; dsimp only)); refine box_event ?hg (N := 8) ?hd (cs := #[.bool false, .int .i64 0, .bool false, .int .i64 0, .slice none 0 0]) (t := 24) ?hr ?_; (case hd => rfl); (case hg => rfl); (case hr => first | (go_simp; done) | (go_simp; rfl)); intro gb182 hg w62 hbox hb; have n0_ := Aside0.mk (Kd.R_below (by (with_reducible repeat (first | apply Kd.R_alloc | apply Kd.R_drewN | apply Kd.R_drew)); exact HO130.out) hb); have n1_ := Aside0.mk (Kd.R_below (by (with_reducible repeat (first | apply Kd.R_alloc | apply Kd.R_drewN | apply Kd.R_drew)); exact HO133.out) hb); have n2_ := Aside0.mk (Kd.R_below (by (with_reducible repeat (first | apply Kd.R_alloc | apply Kd.R_drewN | apply Kd.R_drew)); exact HO142.out) hb); have n3_ := Aside0.mk (Kd.R_below (by (with_reducible repeat (first | apply Kd.R_alloc | apply Kd.R_drewN | apply Kd.R_drew)); exact HO145.out) hb); have n4_ := Aside0.mk (Kd.R_below (by (with_reducible repeat (first | apply Kd.R_alloc | apply Kd.R_drewN | apply Kd.R_drew)); exact HO152.out) hb); have n5_ := Aside0.mk (Kd.R_below (by (with_reducible repeat (first | apply Kd.R_alloc | apply Kd.R_drewN | apply Kd.R_drew)); exact HO166.out) hb); have n6_ := Aside0.mk (Kd.R_below (by (with_reducible repeat (first | apply Kd.R_alloc | apply Kd.R_drewN | apply Kd.R_drew)); exact HO172.out) hb); have n7_ := Aside0.mk (Kd.R_below (by (with_reducible repeat (first | apply Kd.R_alloc | apply Kd.R_drewN | apply Kd.R_drew)); exact HO179.out) hb); have n8_ := Aside0.mk (blk_below (g := gb155) (o := .cells #[.bool t146, .int .i64 t147, .bool t148, .int .i64 t149, .slice Ao50 t150.length co50] 24 (0, 0)) (by (with_reducible repeat (first | refine blk_drewN ?_ _ | refine blk_drew ?_ | refine blk_alloc ?_ _)); exact BK155.out) hb); have n9_ := Aside0.mk (blk_below (g := gb169) (o := .cells #[.bool t160, .int .i64 t161, .bool t162, .int .i64 t163, .slice Ao57 t164.length co57] 24 (0, 0)) (by (with_reducible repeat (first | refine blk_drewN ?_ _ | refine blk_drew ?_ | refine blk_alloc ?_ _)); exact BK169.out) hb); have n10_ := Aside0.mk (below_step (by repeat (first | (with_reducible first | exact HB.out | apply below_alloc | apply pw_below_drewN | apply below_drew1 | refine below_set ?_ GE155.out | refine below_set ?_ GE169.out) | exact HB.out)) hb); have n11_ := Aside0.mk (hbox); have n12_ := Aside0.mk ((by rw [hg]; exact (below_size (by repeat (first | (with_reducible first | exact HB.out | apply below_alloc | apply pw_below_drewN | apply below_drew1 | refine below_set ?_ GE155.out | refine below_set ?_ GE169.out) | exact HB.out))) : w.heap.size ≤ gb182)); have n13_ := Aside0.mk ((by rw [hg]; exact (below_size (by repeat (first | (with_reducible first | exact HB.out | apply below_alloc | apply pw_below_drewN | apply below_drew1 | refine below_set ?_ GE155.out | refine below_set ?_ GE169.out) | exact HB.out))) : w.heap.size ≤ gb182)); have n14_ := Aside0.mk ((by rw [hg]; exact Nat.ne_of_lt (blk_lt (g := gb155) (o := .cells #[.bool t146, .int .i64 t147, .bool t148, .int .i64 t149, .slice Ao50 t150.length co50] 24 (0, 0)) (by (with_reducible repeat (first | refine blk_drewN ?_ _ | refine blk_drew ?_ | refine blk_alloc ?_ _)); exact BK155.out)) : gb155 ≠ gb182)); have n15_ := Aside0.mk ((by rw [hg]; exact Nat.ne_of_gt (blk_lt (g := gb155) (o := .cells #[.bool t146, .int .i64 t147, .bool t148, .int .i64 t149, .slice Ao50 t150.length co50] 24 (0, 0)) (by (with_reducible repeat (first | refine blk_drewN ?_ _ | refine blk_drew ?_ | refine blk_alloc ?_ _)); exact BK155.out)) : gb182 ≠ gb155)); have n16_ := Aside0.mk ((by rw [hg]; exact Nat.ne_of_lt (blk_lt (g := gb169) (o := .cells #[.bool t160, .int .i64 t161, .bool t162, .int .i64 t163, .slice Ao57 t164.length co57] 24 (0, 0)) (by (with_reducible repeat (first | refine blk_drewN ?_ _ | refine blk_drew ?_ | refine blk_alloc ?_ _)); exact BK169.out)) : gb169 ≠ gb182)); have n17_ := Aside0.mk ((by rw [hg]; exact Nat.ne_of_gt (blk_lt (g := gb169) (o := .cells #[.bool t160, .int .i64 t161, .bool t162, .int .i64 t163, .slice Ao57 t164.length co57] 24 (0, 0)) (by (with_reducible repeat (first | refine blk_drewN ?_ _ | refine blk_drew ?_ | refine blk_alloc ?_ _)); exact BK169.out)) : gb182 ≠ gb169)); clear HO130; clear HO133; clear HO142; clear HO145; clear HO152; clear HO166; clear HO172; clear HO179; clear BK155; clear BK169; clear HB; have HO130 := n0_; have HO133 := n1_; have HO142 := n2_; have HO145 := n3_; have HO152 := n4_; have HO166 := n5_; have HO172 := n6_; have HO179 := n7_; have BK155 := n8_; have BK169 := n9_; have HB := n10_; have BK182 := n11_; have GW182 := n12_; have GE182 := n13_; have NB155_182 := n14_; have NB182_155 := n15_; have NB169_182 := n16_; have NB182_169 := n17_; clear n0_ n1_ n2_ n3_ n4_ n5_ n6_ n7_ n8_ n9_ n10_ n11_ n12_ n13_ n14_ n15_ n16_ n17_; clear hb hbox hg; have hnb63 := NB182_155.out; have hnc63 := NB155_182.out; have hnb64 := NB182_169.out; have hnc64 := NB169_182.out; have hcz65_0 : w62.cell? ⟨gb182, 0, none⟩ = some (.bool false) := (blk_cell BK182.out 0).trans rfl; have hcz65_1 : w62.cell? ⟨gb182, 1, none⟩ = some (.int .i64 0) := (blk_cell BK182.out 1).trans rfl; have hcz65_2 : w62.cell? ⟨gb182, 2, none⟩ = some (.bool false) := (blk_cell BK182.out 2).trans rfl; have hcz65_3 : w62.cell? ⟨gb182, 3, none⟩ = some (.int .i64 0) := (blk_cell BK182.out 3).trans rfl; have hcz65_4 : w62.cell? ⟨gb182, 4, none⟩ = some (.slice none 0 0) := (blk_cell BK182.out 4).trans rfl; have hfz65_0 := blk_frozen BK182.out 0; have hfz65_1 := blk_frozen BK182.out 1; have hfz65_2 := blk_frozen BK182.out 2; have hfz65_3 := blk_frozen BK182.out 3; have hfz65_4 := blk_frozen BK182.out 4; obtain ⟨Ao66, co66, eo66⟩ := Kd.R_slice HO179.out; subst eo66) | ((with_reducible refine gate_dst (N := 11) rfl ?_); (try (refine gate_guard (by rfl) ?_; dsimp only)); refine box_event ?hg (N := 11) ?hd (cs := #[.bool false, .int .i64 0, .bool false, .int .i64 0, .slice none 0 0]) (t := 24) ?hr ?_; (case hd => rfl); (case hg => rfl); (case hr => first | (go_simp; done) | (go_simp; rfl)); intro gb183 hg w67 hbox hb; have n0_ := Aside0.mk (Kd.R_below (by (with_reducible repeat (first | apply Kd.R_alloc | apply Kd.R_drewN | apply Kd.R_drew)); exact (HW.R_far5 HO130.out BK182.out (by decide))) hb); have n1_ := Aside0.mk (Kd.R_below (by (with_reducible repeat (first | apply Kd.R_alloc | apply Kd.R_drewN | apply Kd.R_drew)); exact (HW.R_far5 HO133.out BK182.out (by decide))) hb); have n2_ := Aside0.mk (Kd.R_below (by (with_reducible repeat (first | apply Kd.R_alloc | apply Kd.R_drewN | apply Kd.R_drew)); exact (HW.R_far5 HO142.out BK182.out (by decide))) hb); have n3_ := Aside0.mk (Kd.R_below (by (with_reducible repeat (first | apply Kd.R_alloc | apply Kd.R_drewN | apply Kd.R_drew)); exact (HW.R_far5 HO145.out BK182.out (by decide))) hb); have n4_ := Aside0.mk (Kd.R_below (by (with_reducible repeat (first | apply Kd.R_alloc | apply Kd.R_drewN | apply Kd.R_drew)); exact (HW.R_far5 HO152.out BK182.out (by decide))) hb); have n5_ := Aside0.mk (Kd.R_below (by (with_reducible repeat (first | apply Kd.R_alloc | apply Kd.R_drewN | apply Kd.R_drew)); exact (HW.R_far5 HO166.out BK182.out (by decide))) hb); have n6_ := Aside0.mk (Kd.R_below (by (with_reducible repeat (first | apply Kd.R_alloc | apply Kd.R_drewN | apply Kd.R_drew)); exact (HW.R_far5 HO172.out BK182.out (by decide))) hb); have n7_ := Aside0.mk (Kd.R_below (by (with_reducible repeat (first | apply Kd.R_alloc | apply Kd.R_drewN | apply Kd.R_drew)); exact (HW.R_far5 HO179.out BK182.out (by decide))) hb); have n8_ := Aside0.mk (blk_below (g := gb155) (o := .cells #[.bool t146, .int .i64 t147, .bool t148, .int .i64 t149, .slice Ao50 t150.length co50] 24 (0, 0)) (by (with_reducible repeat (first | refine blk_drewN ?_ _ | refine blk_drew ?_ | refine blk_alloc ?_ _)); refine HW.blk_far5 ?_ NB155_182.out; (with_reducible repeat (first | refine blk_drewN ?_ _ | refine blk_drew ?_ | refine blk_alloc ?_ _)); exact BK155.out) hb); have n9_ := Aside0.mk (blk_below (g := gb169) (o := .cells #[.bool t160, .int .i64 t161, .bool t162, .int .i64 t163, .slice Ao57 t164.length co57] 24 (0, 0)) (by (with_reducible repeat (first | refine blk_drewN ?_ _ | refine blk_drew ?_ | refine blk_alloc ?_ _)); refine HW.blk_far5 ?_ NB169_182.out; (with_reducible repeat (first | refine blk_drewN ?_ _ | refine blk_drew ?_ | refine blk_alloc ?_ _)); exact BK169.out) hb); have n10_ := Aside0.mk (blk_below (g := gb182) (o := .cells #[.bool t173, .int .i64 t174, .bool t175, .int .i64 t176, .slice Ao66 t177.length co66] 24 (0, 0)) (by (with_reducible repeat (first | refine blk_drewN ?_ _ | refine blk_drew ?_ | refine blk_alloc ?_ _)); refine HW.blk_put5 (cs := #[.bool false, .int .i64 0, .bool false, .int .i64 0, .slice none 0 0]) ?_ rfl; (with_reducible repeat (first | refine blk_drewN ?_ _ | refine blk_drew ?_ | refine blk_alloc ?_ _)); exact BK182.out) hb); have n11_ := Aside0.mk (below_step (by repeat (first | (with_reducible first | exact HB.out | apply below_alloc | apply pw_below_drewN | apply below_drew1 | refine below_set ?_ GE155.out | refine below_set ?_ GE169.out | refine below_set ?_ GE182.out) | exact HB.out)) hb); have n12_ := Aside0.mk (hbox); have n13_ := Aside0.mk ((by rw [hg]; exact (below_size (by repeat (first | (with_reducible first | exact HB.out | apply below_alloc | apply pw_below_drewN | apply below_drew1 | refine below_set ?_ GE155.out | refine below_set ?_ GE169.out | refine below_set ?_ GE182.out) | exact HB.out))) : w.heap.size ≤ gb183)); have n14_ := Aside0.mk ((by rw [hg]; exact (below_size (by repeat (first | (with_reducible first | exact HB.out | apply below_alloc | apply pw_below_drewN | apply below_drew1 | refine below_set ?_ GE155.out | refine below_set ?_ GE169.out | refine below_set ?_ GE182.out) | exact HB.out))) : w.heap.size ≤ gb183)); have n15_ := Aside0.mk ((by rw [hg]; exact Nat.ne_of_lt (blk_lt (g := gb155) (o := .cells #[.bool t146, .int .i64 t147, .bool t148, .int .i64 t149, .slice Ao50 t150.length co50] 24 (0, 0)) (by (with_reducible repeat (first | refine blk_drewN ?_ _ | refine blk_drew ?_ | refine blk_alloc ?_ _)); refine HW.blk_far5 ?_ NB155_182.out; (with_reducible repeat (first | refine blk_drewN ?_ _ | refine blk_drew ?_ | refine blk_alloc ?_ _)); exact BK155.out)) : gb155 ≠ gb183)); have n16_ := Aside0.mk ((by rw [hg]; exact Nat.ne_of_gt (blk_lt (g := gb155) (o := .cells #[.bool t146, .int .i64 t147, .bool t148, .int .i64 t149, .slice Ao50 t150.length co50] 24 (0, 0)) (by (with_reducible repeat (first | refine blk_drewN ?_ _ | refine blk_drew ?_ | refine blk_alloc ?_ _)); refine HW.blk_far5 ?_ NB155_182.out; (with_reducible repeat (first | refine blk_drewN ?_ _ | refine blk_drew ?_ | refine blk_alloc ?_ _)); exact BK155.out)) : gb183 ≠ gb155)); have n17_ := Aside0.mk ((by rw [hg]; exact Nat.ne_of_lt (blk_lt (g := gb169) (o := .cells #[.bool t160, .int .i64 t161, .bool t162, .int .i64 t163, .slice Ao57 t164.length co57] 24 (0, 0)) (by (with_reducible repeat (first | refine blk_drewN ?_ _ | refine blk_drew ?_ | refine blk_alloc ?_ _)); refine HW.blk_far5 ?_ NB169_182.out; (with_reducible repeat (first | refine blk_drewN ?_ _ | refine blk_drew ?_ | refine blk_alloc ?_ _)); exact BK169.out)) : gb169 ≠ gb183)); have n18_ := Aside0.mk ((by rw [hg]; exact Nat.ne_of_gt (blk_lt (g := gb169) (o := .cells #[.bool t160, .int .i64 t161, .bool t162, .int .i64 t163, .slice Ao57 t164.length co57] 24 (0, 0)) (by (with_reducible repeat (first | refine blk_drewN ?_ _ | refine blk_drew ?_ | refine blk_alloc ?_ _)); refine HW.blk_far5 ?_ NB169_182.out; (with_reducible repeat (first | refine blk_drewN ?_ _ | refine blk_drew ?_ | refine blk_alloc ?_ _)); exact BK169.out)) : gb183 ≠ gb169)); have n19_ := Aside0.mk ((by rw [hg]; exact Nat.ne_of_lt (blk_lt (g := gb182) (o := .cells #[.bool t173, .int .i64 t174, .bool t175, .int .i64 t176, .slice Ao66 t177.length co66] 24 (0, 0)) (by (with_reducible repeat (first | refine blk_drewN ?_ _ | refine blk_drew ?_ | refine blk_alloc ?_ _)); refine HW.blk_put5 (cs := #[.bool false, .int .i64 0, .bool false, .int .i64 0, .slice none 0 0]) ?_ rfl; (with_reducible repeat (first | refine blk_drewN ?_ _ | refine blk_drew ?_ | refine blk_alloc ?_ _)); exact BK182.out)) : gb182 ≠ gb183)); have n20_ := Aside0.mk ((by rw [hg]; exact Nat.ne_of_gt (blk_lt (g := gb182) (o := .cells #[.bool t173, .int .i64 t174, .bool t175, .int .i64 t176, .slice Ao66 t177.length co66] 24 (0, 0)) (by (with_reducible repeat (first | refine blk_drewN ?_ _ | refine blk_drew ?_ | refine blk_alloc ?_ _)); refine HW.blk_put5 (cs := #[.bool false, .int .i64 0, .bool false, .int .i64 0, .slice none 0 0]) ?_ rfl; (with_reducible repeat (first | refine blk_drewN ?_ _ | refine blk_drew ?_ | refine blk_alloc ?_ _)); exact BK182.out)) : gb183 ≠ gb182)); clear HO130; clear HO133; clear HO142; clear HO145; clear HO152; clear HO166; clear HO172; clear HO179; clear BK155; clear BK169; clear BK182; clear HB; have HO130 := n0_; have HO133 := n1_; have HO142 := n2_; have HO145 := n3_; have HO152 := n4_; have HO166 := n5_; have HO172 := n6_; have HO179 := n7_; have BK155 := n8_; have BK169 := n9_; have BK182 := n10_; have HB := n11_; have BK183 := n12_; have GW183 := n13_; have GE183 := n14_; have NB155_183 := n15_; have NB183_155 := n16_; have NB169_183 := n17_; have NB183_169 := n18_; have NB182_183 := n19_; have NB183_182 := n20_; clear n0_ n1_ n2_ n3_ n4_ n5_ n6_ n7_ n8_ n9_ n10_ n11_ n12_ n13_ n14_ n15_ n16_ n17_ n18_ n19_ n20_; clear hb hbox hg; have hnb68 := NB183_155.out; have hnc68 := NB155_183.out; have hnb69 := NB183_169.out; have hnc69 := NB169_183.out; have hnb70 := NB183_182.out; have hnc70 := NB182_183.out; have hcz71_0 : w67.cell? ⟨gb183, 0, none⟩ = some (.bool false) := (blk_cell BK183.out 0).trans rfl; have hcz71_1 : w67.cell? ⟨gb183, 1, none⟩ = some (.int .i64 0) := (blk_cell BK183.out 1).trans rfl; have hcz71_2 : w67.cell? ⟨gb183, 2, none⟩ = some (.bool false) := (blk_cell BK183.out 2).trans rfl; have hcz71_3 : w67.cell? ⟨gb183, 3, none⟩ = some (.int .i64 0) := (blk_cell BK183.out 3).trans rfl; have hcz71_4 : w67.cell? ⟨gb183, 4, none⟩ = some (.slice none 0 0) := (blk_cell BK183.out 4).trans rfl; have hfz71_0 := blk_frozen BK183.out 0; have hfz71_1 := blk_frozen BK183.out 1; have hfz71_2 := blk_frozen BK183.out 2; have hfz71_3 := blk_frozen BK183.out 3; have hfz71_4 := blk_frozen BK183.out 4))
                   have n0_ : Aside0 (Kd.R (Kd.int .u8) 5 (((((w67.setCell ⟨gb183, 0, none⟩ (.bool true)).setCell ⟨gb183, 1, none⟩ (.int .i64 262144)).setCell ⟨gb183, 2, none⟩ (.bool true)).setCell ⟨gb183, 3, none⟩ (.int .i64 3)).setCell ⟨gb183, 4, none⟩ (.slice none 0 0)) w.heap.size (fun k_ => some k_ ≠ (.slice Ao50 t150.length co50 : Value).ownBlock ∧ some k_ ≠ (.slice Ao57 t164.length co57 : Value).ownBlock ∧ some k_ ≠ (.slice Ao66 t177.length co66 : Value).ownBlock) (.slice Ao36 t128.length co36) t128) := ⟨by (with_reducible repeat (first | apply Kd.R_alloc | apply Kd.R_drewN | apply Kd.R_drew)); exact Kd.R_mono (Kd.R_far (p := ⟨gb183, 4, none⟩) (Kd.R_far (p := ⟨gb183, 3, none⟩) (Kd.R_far (p := ⟨gb183, 2, none⟩) (Kd.R_far (p := ⟨gb183, 1, none⟩) (Kd.R_far (p := ⟨gb183, 0, none⟩) (Kd.R_types HO130.out BK183.out (by decide)) (fun _ hk => hk.2) (.bool true)) (fun _ hk => hk.2) (.int .i64 262144)) (fun _ hk => hk.2) (.bool true)) (fun _ hk => hk.2) (.int .i64 3)) (fun _ hk => hk.2) (.slice none 0 0)) (fun _ hk => ⟨hk.1.1.1, ⟨hk.1.1.2, hk.1.2⟩⟩)⟩
                   have n1_ : Aside0 (Kd.R (Kd.int .i64) 3 (((((w67.setCell ⟨gb183, 0, none⟩ (.bool true)).setCell ⟨gb183, 1, none⟩ (.int .i64 262144)).setCell ⟨gb183, 2, none⟩ (.bool true)).setCell ⟨gb183, 3, none⟩ (.int .i64 3)).setCell ⟨gb183, 4, none⟩ (.slice none 0 0)) w.heap.size (fun k_ => some k_ ≠ (.slice Ao45 y140.length co45 : Value).ownBlock ∧ some k_ ≠ (.slice Ao46 y143.length co46 : Value).ownBlock ∧ some k_ ≠ (.slice Ao60 y170.length co60 : Value).ownBlock) (.slice Ao41 t131.length co41) t131) := ⟨by (with_reducible repeat (first | apply Kd.R_alloc | apply Kd.R_drewN | apply Kd.R_drew)); exact Kd.R_mono (Kd.R_far (p := ⟨gb183, 4, none⟩) (Kd.R_far (p := ⟨gb183, 3, none⟩) (Kd.R_far (p := ⟨gb183, 2, none⟩) (Kd.R_far (p := ⟨gb183, 1, none⟩) (Kd.R_far (p := ⟨gb183, 0, none⟩) (Kd.R_types HO133.out BK183.out (by decide)) (fun _ hk => hk.2) (.bool true)) (fun _ hk => hk.2) (.int .i64 262144)) (fun _ hk => hk.2) (.bool true)) (fun _ hk => hk.2) (.int .i64 3)) (fun _ hk => hk.2) (.slice none 0 0)) (fun _ hk => ⟨hk.1.1.1, ⟨hk.1.1.2, hk.1.2⟩⟩)⟩
                   have n2_ : Aside0 (Kd.R (Kd.int .i64) 3 (((((w67.setCell ⟨gb183, 0, none⟩ (.bool true)).setCell ⟨gb183, 1, none⟩ (.int .i64 262144)).setCell ⟨gb183, 2, none⟩ (.bool true)).setCell ⟨gb183, 3, none⟩ (.int .i64 3)).setCell ⟨gb183, 4, none⟩ (.slice none 0 0)) w.heap.size (fun k_ => some k_ ≠ (.slice Ao41 t131.length co41 : Value).ownBlock ∧ some k_ ≠ (.slice Ao46 y143.length co46 : Value).ownBlock ∧ some k_ ≠ (.slice Ao60 y170.length co60 : Value).ownBlock) (.slice Ao45 y140.length co45) y140) := ⟨by (with_reducible repeat (first | apply Kd.R_alloc | apply Kd.R_drewN | apply Kd.R_drew)); exact Kd.R_mono (Kd.R_far (p := ⟨gb183, 4, none⟩) (Kd.R_far (p := ⟨gb183, 3, none⟩) (Kd.R_far (p := ⟨gb183, 2, none⟩) (Kd.R_far (p := ⟨gb183, 1, none⟩) (Kd.R_far (p := ⟨gb183, 0, none⟩) (Kd.R_types HO142.out BK183.out (by decide)) (fun _ hk => hk.2) (.bool true)) (fun _ hk => hk.2) (.int .i64 262144)) (fun _ hk => hk.2) (.bool true)) (fun _ hk => hk.2) (.int .i64 3)) (fun _ hk => hk.2) (.slice none 0 0)) (fun _ hk => ⟨hk.1.1.1, ⟨hk.1.1.2, hk.1.2⟩⟩)⟩
                   have n3_ : Aside0 (Kd.R (Kd.int .i64) 3 (((((w67.setCell ⟨gb183, 0, none⟩ (.bool true)).setCell ⟨gb183, 1, none⟩ (.int .i64 262144)).setCell ⟨gb183, 2, none⟩ (.bool true)).setCell ⟨gb183, 3, none⟩ (.int .i64 3)).setCell ⟨gb183, 4, none⟩ (.slice none 0 0)) w.heap.size (fun k_ => some k_ ≠ (.slice Ao41 t131.length co41 : Value).ownBlock ∧ some k_ ≠ (.slice Ao45 y140.length co45 : Value).ownBlock ∧ some k_ ≠ (.slice Ao60 y170.length co60 : Value).ownBlock) (.slice Ao46 y143.length co46) y143) := ⟨by (with_reducible repeat (first | apply Kd.R_alloc | apply Kd.R_drewN | apply Kd.R_drew)); exact Kd.R_mono (Kd.R_far (p := ⟨gb183, 4, none⟩) (Kd.R_far (p := ⟨gb183, 3, none⟩) (Kd.R_far (p := ⟨gb183, 2, none⟩) (Kd.R_far (p := ⟨gb183, 1, none⟩) (Kd.R_far (p := ⟨gb183, 0, none⟩) (Kd.R_types HO145.out BK183.out (by decide)) (fun _ hk => hk.2) (.bool true)) (fun _ hk => hk.2) (.int .i64 262144)) (fun _ hk => hk.2) (.bool true)) (fun _ hk => hk.2) (.int .i64 3)) (fun _ hk => hk.2) (.slice none 0 0)) (fun _ hk => ⟨hk.1.1.1, ⟨hk.1.1.2, hk.1.2⟩⟩)⟩
                   have n4_ : Aside0 (Kd.R (Kd.int .u8) 5 (((((w67.setCell ⟨gb183, 0, none⟩ (.bool true)).setCell ⟨gb183, 1, none⟩ (.int .i64 262144)).setCell ⟨gb183, 2, none⟩ (.bool true)).setCell ⟨gb183, 3, none⟩ (.int .i64 3)).setCell ⟨gb183, 4, none⟩ (.slice none 0 0)) w.heap.size (fun k_ => some k_ ≠ (.slice Ao36 t128.length co36 : Value).ownBlock ∧ some k_ ≠ (.slice Ao57 t164.length co57 : Value).ownBlock ∧ some k_ ≠ (.slice Ao66 t177.length co66 : Value).ownBlock) (.slice Ao50 t150.length co50) t150) := ⟨by (with_reducible repeat (first | apply Kd.R_alloc | apply Kd.R_drewN | apply Kd.R_drew)); exact Kd.R_mono (Kd.R_far (p := ⟨gb183, 4, none⟩) (Kd.R_far (p := ⟨gb183, 3, none⟩) (Kd.R_far (p := ⟨gb183, 2, none⟩) (Kd.R_far (p := ⟨gb183, 1, none⟩) (Kd.R_far (p := ⟨gb183, 0, none⟩) (Kd.R_types HO152.out BK183.out (by decide)) (fun _ hk => hk.2) (.bool true)) (fun _ hk => hk.2) (.int .i64 262144)) (fun _ hk => hk.2) (.bool true)) (fun _ hk => hk.2) (.int .i64 3)) (fun _ hk => hk.2) (.slice none 0 0)) (fun _ hk => ⟨hk.1.1.1, ⟨hk.1.1.2, hk.1.2⟩⟩)⟩
                   have n5_ : Aside0 (Kd.R (Kd.int .u8) 5 (((((w67.setCell ⟨gb183, 0, none⟩ (.bool true)).setCell ⟨gb183, 1, none⟩ (.int .i64 262144)).setCell ⟨gb183, 2, none⟩ (.bool true)).setCell ⟨gb183, 3, none⟩ (.int .i64 3)).setCell ⟨gb183, 4, none⟩ (.slice none 0 0)) w.heap.size (fun k_ => some k_ ≠ (.slice Ao36 t128.length co36 : Value).ownBlock ∧ some k_ ≠ (.slice Ao50 t150.length co50 : Value).ownBlock ∧ some k_ ≠ (.slice Ao66 t177.length co66 : Value).ownBlock) (.slice Ao57 t164.length co57) t164) := ⟨by (with_reducible repeat (first | apply Kd.R_alloc | apply Kd.R_drewN | apply Kd.R_drew)); exact Kd.R_mono (Kd.R_far (p := ⟨gb183, 4, none⟩) (Kd.R_far (p := ⟨gb183, 3, none⟩) (Kd.R_far (p := ⟨gb183, 2, none⟩) (Kd.R_far (p := ⟨gb183, 1, none⟩) (Kd.R_far (p := ⟨gb183, 0, none⟩) (Kd.R_types HO166.out BK183.out (by decide)) (fun _ hk => hk.2) (.bool true)) (fun _ hk => hk.2) (.int .i64 262144)) (fun _ hk => hk.2) (.bool true)) (fun _ hk => hk.2) (.int .i64 3)) (fun _ hk => hk.2) (.slice none 0 0)) (fun _ hk => ⟨hk.1.1.1.2, ⟨hk.1.1.2, hk.1.2⟩⟩)⟩
                   have n6_ : Aside0 (Kd.R (Kd.int .i64) 3 (((((w67.setCell ⟨gb183, 0, none⟩ (.bool true)).setCell ⟨gb183, 1, none⟩ (.int .i64 262144)).setCell ⟨gb183, 2, none⟩ (.bool true)).setCell ⟨gb183, 3, none⟩ (.int .i64 3)).setCell ⟨gb183, 4, none⟩ (.slice none 0 0)) w.heap.size (fun k_ => some k_ ≠ (.slice Ao41 t131.length co41 : Value).ownBlock ∧ some k_ ≠ (.slice Ao45 y140.length co45 : Value).ownBlock ∧ some k_ ≠ (.slice Ao46 y143.length co46 : Value).ownBlock) (.slice Ao60 y170.length co60) y170) := ⟨by (with_reducible repeat (first | apply Kd.R_alloc | apply Kd.R_drewN | apply Kd.R_drew)); exact Kd.R_mono (Kd.R_far (p := ⟨gb183, 4, none⟩) (Kd.R_far (p := ⟨gb183, 3, none⟩) (Kd.R_far (p := ⟨gb183, 2, none⟩) (Kd.R_far (p := ⟨gb183, 1, none⟩) (Kd.R_far (p := ⟨gb183, 0, none⟩) (Kd.R_types HO172.out BK183.out (by decide)) (fun _ hk => hk.2) (.bool true)) (fun _ hk => hk.2) (.int .i64 262144)) (fun _ hk => hk.2) (.bool true)) (fun _ hk => hk.2) (.int .i64 3)) (fun _ hk => hk.2) (.slice none 0 0)) (fun _ hk => ⟨hk.1.1.1.2, ⟨hk.1.1.2, hk.1.2⟩⟩)⟩
                   have n7_ : Aside0 (Kd.R (Kd.int .u8) 5 (((((w67.setCell ⟨gb183, 0, none⟩ (.bool true)).setCell ⟨gb183, 1, none⟩ (.int .i64 262144)).setCell ⟨gb183, 2, none⟩ (.bool true)).setCell ⟨gb183, 3, none⟩ (.int .i64 3)).setCell ⟨gb183, 4, none⟩ (.slice none 0 0)) w.heap.size (fun k_ => some k_ ≠ (.slice Ao36 t128.length co36 : Value).ownBlock ∧ some k_ ≠ (.slice Ao50 t150.length co50 : Value).ownBlock ∧ some k_ ≠ (.slice Ao57 t164.length co57 : Value).ownBlock) (.slice Ao66 t177.length co66) t177) := ⟨by (with_reducible repeat (first | apply Kd.R_alloc | apply Kd.R_drewN | apply Kd.R_drew)); exact Kd.R_mono (Kd.R_far (p := ⟨gb183, 4, none⟩) (Kd.R_far (p := ⟨gb183, 3, none⟩) (Kd.R_far (p := ⟨gb183, 2, none⟩) (Kd.R_far (p := ⟨gb183, 1, none⟩) (Kd.R_far (p := ⟨gb183, 0, none⟩) (Kd.R_types HO179.out BK183.out (by decide)) (fun _ hk => hk.2) (.bool true)) (fun _ hk => hk.2) (.int .i64 262144)) (fun _ hk => hk.2) (.bool true)) (fun _ hk => hk.2) (.int .i64 3)) (fun _ hk => hk.2) (.slice none 0 0)) (fun _ hk => ⟨hk.1.1.1.2, ⟨hk.1.1.2, hk.1.2⟩⟩)⟩
                   have n8_ : Aside0 ((((((w67.setCell ⟨gb183, 0, none⟩ (.bool true)).setCell ⟨gb183, 1, none⟩ (.int .i64 262144)).setCell ⟨gb183, 2, none⟩ (.bool true)).setCell ⟨gb183, 3, none⟩ (.int .i64 3)).setCell ⟨gb183, 4, none⟩ (.slice none 0 0)).heap[gb155]? = some (.cells #[.bool t146, .int .i64 t147, .bool t148, .int .i64 t149, .slice Ao50 t150.length co50] 24 (0, 0))) := ⟨by (with_reducible repeat (first | refine blk_drewN ?_ _ | refine blk_drew ?_ | refine blk_alloc ?_ _)); refine HW.blk_far5 ?_ NB155_183.out; (with_reducible repeat (first | refine blk_drewN ?_ _ | refine blk_drew ?_ | refine blk_alloc ?_ _)); exact BK155.out⟩
                   have n9_ : Aside0 ((((((w67.setCell ⟨gb183, 0, none⟩ (.bool true)).setCell ⟨gb183, 1, none⟩ (.int .i64 262144)).setCell ⟨gb183, 2, none⟩ (.bool true)).setCell ⟨gb183, 3, none⟩ (.int .i64 3)).setCell ⟨gb183, 4, none⟩ (.slice none 0 0)).heap[gb169]? = some (.cells #[.bool t160, .int .i64 t161, .bool t162, .int .i64 t163, .slice Ao57 t164.length co57] 24 (0, 0))) := ⟨by (with_reducible repeat (first | refine blk_drewN ?_ _ | refine blk_drew ?_ | refine blk_alloc ?_ _)); refine HW.blk_far5 ?_ NB169_183.out; (with_reducible repeat (first | refine blk_drewN ?_ _ | refine blk_drew ?_ | refine blk_alloc ?_ _)); exact BK169.out⟩
                   have n10_ : Aside0 ((((((w67.setCell ⟨gb183, 0, none⟩ (.bool true)).setCell ⟨gb183, 1, none⟩ (.int .i64 262144)).setCell ⟨gb183, 2, none⟩ (.bool true)).setCell ⟨gb183, 3, none⟩ (.int .i64 3)).setCell ⟨gb183, 4, none⟩ (.slice none 0 0)).heap[gb182]? = some (.cells #[.bool t173, .int .i64 t174, .bool t175, .int .i64 t176, .slice Ao66 t177.length co66] 24 (0, 0))) := ⟨by (with_reducible repeat (first | refine blk_drewN ?_ _ | refine blk_drew ?_ | refine blk_alloc ?_ _)); refine HW.blk_far5 ?_ NB182_183.out; (with_reducible repeat (first | refine blk_drewN ?_ _ | refine blk_drew ?_ | refine blk_alloc ?_ _)); exact BK182.out⟩
                   have n11_ : Aside0 ((((((w67.setCell ⟨gb183, 0, none⟩ (.bool true)).setCell ⟨gb183, 1, none⟩ (.int .i64 262144)).setCell ⟨gb183, 2, none⟩ (.bool true)).setCell ⟨gb183, 3, none⟩ (.int .i64 3)).setCell ⟨gb183, 4, none⟩ (.slice none 0 0)).heap[gb183]? = some (.cells #[.bool true, .int .i64 262144, .bool true, .int .i64 3, .slice none 0 0] 24 (0, 0))) := ⟨by (with_reducible repeat (first | refine blk_drewN ?_ _ | refine blk_drew ?_ | refine blk_alloc ?_ _)); refine HW.blk_put5 (cs := #[.bool false, .int .i64 0, .bool false, .int .i64 0, .slice none 0 0]) ?_ rfl; (with_reducible repeat (first | refine blk_drewN ?_ _ | refine blk_drew ?_ | refine blk_alloc ?_ _)); exact BK183.out⟩
                   have n12_ : Aside0 (Below w.heap.size w (((((w67.setCell ⟨gb183, 0, none⟩ (.bool true)).setCell ⟨gb183, 1, none⟩ (.int .i64 262144)).setCell ⟨gb183, 2, none⟩ (.bool true)).setCell ⟨gb183, 3, none⟩ (.int .i64 3)).setCell ⟨gb183, 4, none⟩ (.slice none 0 0))) := ⟨by repeat (first | (with_reducible first | exact HB.out | apply below_alloc | apply pw_below_drewN | apply below_drew1 | refine below_set ?_ GE155.out | refine below_set ?_ GE169.out | refine below_set ?_ GE182.out | refine below_set ?_ GE183.out) | exact HB.out)⟩
                   (try clear HO130)
                   (try clear HO133)
                   (try clear HO142)
                   (try clear HO145)
                   (try clear HO152)
                   (try clear HO166)
                   (try clear HO172)
                   (try clear HO179)
                   (try clear BK155)
                   (try clear BK169)
                   (try clear BK182)
                   (try clear BK183)
                   (try clear HB)
                   generalize (((((w67.setCell ⟨gb183, 0, none⟩ (.bool true)).setCell ⟨gb183, 1, none⟩ (.int .i64 262144)).setCell ⟨gb183, 2, none⟩ (.bool true)).setCell ⟨gb183, 3, none⟩ (.int .i64 3)).setCell ⟨gb183, 4, none⟩ (.slice none 0 0)) = w72 at n0_ n1_ n2_ n3_ n4_ n5_ n6_ n7_ n8_ n9_ n10_ n11_ n12_ ⊢
                   have HO130 := n0_
                   have HO133 := n1_
                   have HO142 := n2_
                   have HO145 := n3_
                   have HO152 := n4_
                   have HO166 := n5_
                   have HO172 := n6_
                   have HO179 := n7_
                   have BK155 := n8_
                   have BK169 := n9_
                   have BK182 := n10_
                   have BK183 := n11_
                   have HB := n12_
                   clear n0_ n1_ n2_ n3_ n4_ n5_ n6_ n7_ n8_ n9_ n10_ n11_ n12_
                   have n0_ := Aside0.mk (Kd.R_drew HO130.out)
                   have n1_ := Aside0.mk (Kd.R_drew HO133.out)
                   have n2_ := Aside0.mk (Kd.R_drew HO142.out)
                   have n3_ := Aside0.mk (Kd.R_drew HO145.out)
                   have n4_ := Aside0.mk (Kd.R_drew HO152.out)
                   have n5_ := Aside0.mk (Kd.R_drew HO166.out)
                   have n6_ := Aside0.mk (Kd.R_drew HO172.out)
                   have n7_ := Aside0.mk (Kd.R_drew HO179.out)
                   have n8_ := Aside0.mk (blk_drew BK155.out)
                   have n9_ := Aside0.mk (blk_drew BK169.out)
                   have n10_ := Aside0.mk (blk_drew BK182.out)
                   have n11_ := Aside0.mk (blk_drew BK183.out)
                   have n12_ := Aside0.mk (below_drew1 HB.out)
                   clear HO130
                   clear HO133
                   clear HO142
                   clear HO145
                   clear HO152
                   clear HO166
                   clear HO172
                   clear HO179
                   clear BK155
                   clear BK169
                   clear BK182
                   clear BK183
                   clear HB
                   have HO130 := n0_
                   have HO133 := n1_
                   have HO142 := n2_
                   have HO145 := n3_
                   have HO152 := n4_
                   have HO166 := n5_
                   have HO172 := n6_
                   have HO179 := n7_
                   have BK155 := n8_
                   have BK169 := n9_
                   have BK182 := n10_
                   have BK183 := n11_
                   have HB := n12_
                   clear n0_ n1_ n2_ n3_ n4_ n5_ n6_ n7_ n8_ n9_ n10_ n11_ n12_
                   have q74 : (19 : Int) ≤ ((t131.length : Int) : Int) := of_decide_eq_true (by first | (with_reducible assumption) | assumption)
                   obtain ⟨i074, hi074, _, hsz74, _⟩ := info_parts info3
                   have hroom74 : t131.length ≤ co41 := (Kd.R_reads' HO133.out).2.1
                   have hC74 : Kd.C (Kd.int .i64) _ Ao41 t131.length t131 := (Kd.R_reads' HO133.out).2.2
                   have hcut74 := cut_to (P := Try.prog) 25 3 .i64 Try.underlying25 hi074 Ao41 t131.length co41 19 (by omega) q74 hroom74
                   have hr74 := Kd.C_take (m := 19) hC74 (by omega)
                   have hy74 : y184.length = (19 : Int).toNat := (by rw [Ny184.out, List.length_take]; omega)
                   rw [← Ny184.out] at hr74
                   rw [← hy74] at hcut74
                   have HR187 := Aside0.mk hr74
                   have HC187 := Aside0.mk (show y184.length ≤ co41 from by omega)
                   clear hr74 hC74 hroom74 hi074 hsz74
                   have KY74 := Aside0.mk hy74
                   clear hy74
                   have KL74 := Aside0.mk (show 19 ≤ t131.length from by omega)
                   replace q74 := eq_true q74
                   refine start_ (n := 63) (S := fun w' => w'.cell? ⟨gb155, 0, none⟩ = some (.bool t146) ∧ w'.cell? ⟨gb155, 1, none⟩ = some (.int .i64 t147) ∧ w'.cell? ⟨gb155, 2, none⟩ = some (.bool t148) ∧ w'.cell? ⟨gb155, 3, none⟩ = some (.int .i64 t149) ∧ w'.cell? ⟨gb155, 4, none⟩ = some (.slice Ao50 t150.length co50) ∧ w'.cell? ⟨gb183, 0, none⟩ = some (.bool true) ∧ w'.cell? ⟨gb183, 1, none⟩ = some (.int .i64 262144) ∧ w'.cell? ⟨gb183, 2, none⟩ = some (.bool true) ∧ w'.cell? ⟨gb183, 3, none⟩ = some (.int .i64 3) ∧ w'.cell? ⟨gb183, 4, none⟩ = some (.slice none 0 0)) (ds := []) #[false, false, false, false, false, false, false, false, false, false, false, false, false, false, false, false, false, false, false, false, false, false, false, false, false, false, false, false, false, false, false, false, false, false, false, false, false, false, false, false, false, false, false, false, false, false, false, false, false, false, false, false, false, false, false, false, false, false, false, false, false, false, false] (by kernel_rfl) rfl rfl ⟨(blk_cell BK155.out 0).trans rfl, (blk_cell BK155.out 1).trans rfl, (blk_cell BK155.out 2).trans rfl, (blk_cell BK155.out 3).trans rfl, (blk_cell BK155.out 4).trans rfl, (blk_cell BK183.out 0).trans rfl, (blk_cell BK183.out 1).trans rfl, (blk_cell BK183.out 2).trans rfl, (blk_cell BK183.out 3).trans rfl, (blk_cell BK183.out 4).trans rfl⟩ (fun hHeld => ?_); refine with_tabW phaetonlaw04_head.tab6 phaetonlaw04_head.bits6 (fun HT_ HW_ => ?_)
                   generalize w72.drew = w73 at HO130 HO133 HO142 HO145 HO152 HO166 HO172 HO179 BK155 BK169 BK182 BK183 HB HR187 hHeld ⊢
                   refine pure_ (i := 0) (N := some 41) (v := ?_) (a' := ?_) #[true, false, false, false, false, false, false, false, false, false, false, false, false, false, false, false, false, false, false, false, false, false, false, false, false, false, false, false, false, false, false, false, false, false, false, false, false, false, false, false, false, false, false, false, false, false, false, false, false, false, false, false, false, false, false, false, false, false, false, false, false, false, false] rfl rfl (any_of HT_.out (by kernel_rfl)) (fun _ _ _ h => h) (Or.inl ⟨by rfl, ?_⟩) ?_ ?_
                   rotate_left
                   ·intro w'
                    go_simp
                    with_reducible rfl
                   rotate_left
                   ·simp only [Act.put, HW.LA, HW.LZ, HW.LS, i64_w, i32_w]
                    rfl
                   refine pure_ (i := 1) (N := some 42) (v := ?_) (a' := ?_) #[true, true, false, false, false, false, false, false, false, false, false, false, false, false, false, false, false, false, false, false, false, false, false, false, false, false, false, false, false, false, false, false, false, false, false, false, false, false, false, false, false, false, false, false, false, false, false, false, false, false, false, false, false, false, false, false, false, false, false, false, false, false, false] rfl rfl (any_of HT_.out (by kernel_rfl)) (fun _ _ _ h => h) (Or.inl ⟨by rfl, ?_⟩) ?_ ?_
                   rotate_left
                   ·intro w'
                    go_simp
                    with_reducible rfl
                   rotate_left
                   ·simp only [Act.put, HW.LA, HW.LZ, HW.LS, i64_w, i32_w]
                    rfl
                   refine pure_ (i := 2) (N := some 43) (v := ?_) (a' := ?_) #[true, true, true, false, false, false, false, false, false, false, false, false, false, false, false, false, false, false, false, false, false, false, false, false, false, false, false, false, false, false, false, false, false, false, false, false, false, false, false, false, false, false, false, false, false, false, false, false, false, false, false, false, false, false, false, false, false, false, false, false, false, false, false] rfl rfl (any_of HT_.out (by kernel_rfl)) (fun _ _ _ h => h) (Or.inl ⟨by rfl, ?_⟩) ?_ ?_
                   rotate_left
                   ·intro w'
                    go_simp
                    with_reducible rfl
                   rotate_left
                   ·simp only [Act.put, HW.LA, HW.LZ, HW.LS, i64_w, i32_w]
                    rfl
                   refine pure_ (i := 3) (N := some 44) (v := ?_) (a' := ?_) #[true, true, true, true, false, false, false, false, false, false, false, false, false, false, false, false, false, false, false, false, false, false, false, false, false, false, false, false, false, false, false, false, false, false, false, false, false, false, false, false, false, false, false, false, false, false, false, false, false, false, false, false, false, false, false, false, false, false, false, false, false, false, false] rfl rfl (any_of HT_.out (by kernel_rfl)) (fun _ _ _ h => h) (Or.inl ⟨by rfl, ?_⟩) ?_ ?_
                   rotate_left
                   ·intro w'
                    go_simp
                    with_reducible rfl
                   rotate_left
                   ·simp only [Act.put, HW.LA, HW.LZ, HW.LS, i64_w, i32_w]
                    rfl
                   refine pure_ (i := 4) (N := some 45) (v := ?_) (a' := ?_) #[true, true, true, true, true, false, false, false, false, false, false, false, false, false, false, false, false, false, false, false, false, false, false, false, false, false, false, false, false, false, false, false, false, false, false, false, false, false, false, false, false, false, false, false, false, false, false, false, false, false, false, false, false, false, false, false, false, false, false, false, false, false, false] rfl rfl (any_of HT_.out (by kernel_rfl)) (fun _ _ _ h => h) (Or.inl ⟨by rfl, ?_⟩) ?_ ?_
                   rotate_left
                   ·intro w'
                    go_simp
                    with_reducible rfl
                   rotate_left
                   ·simp only [Act.put, HW.LA, HW.LZ, HW.LS, i64_w, i32_w]
                    rfl
                   refine pure_ (i := 5) (N := some 46) (v := ?_) (a' := ?_) #[true, true, true, true, true, true, false, false, false, false, false, false, false, false, false, false, false, false, false, false, false, false, false, false, false, false, false, false, false, false, false, false, false, false, false, false, false, false, false, false, false, false, false, false, false, false, false, false, false, false, false, false, false, false, false, false, false, false, false, false, false, false, false] rfl rfl (any_of HT_.out (by kernel_rfl)) (fun _ _ _ h => h) (Or.inl ⟨by rfl, ?_⟩) ?_ ?_
                   rotate_left
                   ·intro w'
                    go_simp
                    with_reducible rfl
                   rotate_left
                   ·simp only [Act.put, HW.LA, HW.LZ, HW.LS, i64_w, i32_w]
                    rfl
                   refine one_ (i := 6) (N := some 47) #[true, true, true, true, true, true, true, false, false, false, false, false, false, false, false, false, false, false, false, false, false, false, false, false, false, false, false, false, false, false, false, false, false, false, false, false, false, false, false, false, false, false, false, false, false, false, false, false, false, false, false, false, false, false, false, false, false, false, false, false, false, false, false] rfl rfl (one_of HT_.out (by kernel_rfl)) (by decide) (fun K hK => ?_)
                   refine Kd.R_lit_step (Kd.int .i64) _ 3 ?hg (N := 47) ?hd (xs := ([0, 0, 0, 0, 0, 0, 0, 0, 0, 0, 0, 1, 0, 0, 0, 0, 0, 0, 1] : List Int)) (inner := [.int .i64 0, .int .i64 0, .int .i64 0, .int .i64 0, .int .i64 0, .int .i64 0, .int .i64 0, .int .i64 0, .int .i64 0, .int .i64 0, .int .i64 0, .int .i64 1, .int .i64 0, .int .i64 0, .int .i64 0, .int .i64 0, .int .i64 0, .int .i64 0, .int .i64 1]) (ok := fun _ => True) (okp := fun _ => True) ?hr ?hp (fun _ hk => hk) trivial (Below.refl _ _) (Nat.le_refl _) (by simp) ?_; (case hd => rfl); (case hg => rfl); (case hr => first | (go_simp; done) | (go_simp; rfl)); (case hp => exact (Reps.one (show Kd.M (Kd.int .i64) _ _ _ 0 [.int .i64 0] from rfl) (Reps.one (show Kd.M (Kd.int .i64) _ _ _ 0 [.int .i64 0] from rfl) (Reps.one (show Kd.M (Kd.int .i64) _ _ _ 0 [.int .i64 0] from rfl) (Reps.one (show Kd.M (Kd.int .i64) _ _ _ 0 [.int .i64 0] from rfl) (Reps.one (show Kd.M (Kd.int .i64) _ _ _ 0 [.int .i64 0] from rfl) (Reps.one (show Kd.M (Kd.int .i64) _ _ _ 0 [.int .i64 0] from rfl) (Reps.one (show Kd.M (Kd.int .i64) _ _ _ 0 [.int .i64 0] from rfl) (Reps.one (show Kd.M (Kd.int .i64) _ _ _ 0 [.int .i64 0] from rfl) (Reps.one (show Kd.M (Kd.int .i64) _ _ _ 0 [.int .i64 0] from rfl) (Reps.one (show Kd.M (Kd.int .i64) _ _ _ 0 [.int .i64 0] from rfl) (Reps.one (show Kd.M (Kd.int .i64) _ _ _ 0 [.int .i64 0] from rfl) (Reps.one (show Kd.M (Kd.int .i64) _ _ _ 1 [.int .i64 1] from rfl) (Reps.one (show Kd.M (Kd.int .i64) _ _ _ 0 [.int .i64 0] from rfl) (Reps.one (show Kd.M (Kd.int .i64) _ _ _ 0 [.int .i64 0] from rfl) (Reps.one (show Kd.M (Kd.int .i64) _ _ _ 0 [.int .i64 0] from rfl) (Reps.one (show Kd.M (Kd.int .i64) _ _ _ 0 [.int .i64 0] from rfl) (Reps.one (show Kd.M (Kd.int .i64) _ _ _ 0 [.int .i64 0] from rfl) (Reps.one (show Kd.M (Kd.int .i64) _ _ _ 0 [.int .i64 0] from rfl) (Reps.one (show Kd.M (Kd.int .i64) _ _ _ 1 [.int .i64 1] from rfl) (Reps.none _ _)))))))))))))))))))))
                   intro v189 w75 ho76 hb hg_ hnew_
                   clear hg_ hnew_
                   (first | rw [← Ny188.out] at ho76 | (simp only [Int.reduceToNat] at ho76; rw [← Ny188.out] at ho76))
                   have n0_ := Aside0.mk (Kd.R_below (by (with_reducible repeat (first | apply Kd.R_alloc | apply Kd.R_drewN | apply Kd.R_drew)); exact HO130.out) hb)
                   have n1_ := Aside0.mk (Kd.R_elder' (by (with_reducible repeat (first | apply Kd.R_alloc | apply Kd.R_drewN | apply Kd.R_drew)); exact HO133.out) (Kd.R_base ho76) hb)
                   have n2_ := Aside0.mk (Kd.R_elder' (by (with_reducible repeat (first | apply Kd.R_alloc | apply Kd.R_drewN | apply Kd.R_drew)); exact HO142.out) (Kd.R_base ho76) hb)
                   have n3_ := Aside0.mk (Kd.R_elder' (by (with_reducible repeat (first | apply Kd.R_alloc | apply Kd.R_drewN | apply Kd.R_drew)); exact HO145.out) (Kd.R_base ho76) hb)
                   have n4_ := Aside0.mk (Kd.R_below (by (with_reducible repeat (first | apply Kd.R_alloc | apply Kd.R_drewN | apply Kd.R_drew)); exact HO152.out) hb)
                   have n5_ := Aside0.mk (Kd.R_below (by (with_reducible repeat (first | apply Kd.R_alloc | apply Kd.R_drewN | apply Kd.R_drew)); exact HO166.out) hb)
                   have n6_ := Aside0.mk (Kd.R_elder' (by (with_reducible repeat (first | apply Kd.R_alloc | apply Kd.R_drewN | apply Kd.R_drew)); exact HO172.out) (Kd.R_base ho76) hb)
                   have n7_ := Aside0.mk (Kd.R_below (by (with_reducible repeat (first | apply Kd.R_alloc | apply Kd.R_drewN | apply Kd.R_drew)); exact HO179.out) hb)
                   have n8_ := Aside0.mk (Kd.R_lower (Kd.R_new' (Kd.R_new' (Kd.R_new' (Kd.R_new' ho76 (Kd.R_lt (by (with_reducible repeat (first | apply Kd.R_alloc | apply Kd.R_drewN | apply Kd.R_drew)); exact HO133.out))) (Kd.R_lt (by (with_reducible repeat (first | apply Kd.R_alloc | apply Kd.R_drewN | apply Kd.R_drew)); exact HO142.out))) (Kd.R_lt (by (with_reducible repeat (first | apply Kd.R_alloc | apply Kd.R_drewN | apply Kd.R_drew)); exact HO145.out))) (Kd.R_lt (by (with_reducible repeat (first | apply Kd.R_alloc | apply Kd.R_drewN | apply Kd.R_drew)); exact HO172.out))) (below_size (by repeat (first | (with_reducible first | exact HB.out | apply below_alloc | apply pw_below_drewN | apply below_drew1 | refine below_set ?_ GE155.out | refine below_set ?_ GE169.out | refine below_set ?_ GE182.out | refine below_set ?_ GE183.out) | exact HB.out))))
                   have n9_ := Aside0.mk (blk_below (g := gb155) (o := .cells #[.bool t146, .int .i64 t147, .bool t148, .int .i64 t149, .slice Ao50 t150.length co50] 24 (0, 0)) (by (with_reducible repeat (first | refine blk_drewN ?_ _ | refine blk_drew ?_ | refine blk_alloc ?_ _)); exact BK155.out) hb)
                   have n10_ := Aside0.mk (blk_below (g := gb169) (o := .cells #[.bool t160, .int .i64 t161, .bool t162, .int .i64 t163, .slice Ao57 t164.length co57] 24 (0, 0)) (by (with_reducible repeat (first | refine blk_drewN ?_ _ | refine blk_drew ?_ | refine blk_alloc ?_ _)); exact BK169.out) hb)
                   have n11_ := Aside0.mk (blk_below (g := gb182) (o := .cells #[.bool t173, .int .i64 t174, .bool t175, .int .i64 t176, .slice Ao66 t177.length co66] 24 (0, 0)) (by (with_reducible repeat (first | refine blk_drewN ?_ _ | refine blk_drew ?_ | refine blk_alloc ?_ _)); exact BK182.out) hb)
                   have n12_ := Aside0.mk (blk_below (g := gb183) (o := .cells #[.bool true, .int .i64 262144, .bool true, .int .i64 3, .slice none 0 0] 24 (0, 0)) (by (with_reducible repeat (first | refine blk_drewN ?_ _ | refine blk_drew ?_ | refine blk_alloc ?_ _)); exact BK183.out) hb)
                   have n13_ := Aside0.mk (Kd.C_below (by repeat (first | (with_reducible exact HR187.out) | (with_reducible refine Kd.C_alloc ?_ _) | (with_reducible refine Kd.C_drewN ?_ _) | (with_reducible refine Kd.C_drew ?_) | exact HR187.out)) hb)
                   have n14_ := Aside0.mk (below_step (by repeat (first | (with_reducible first | exact HB.out | apply below_alloc | apply pw_below_drewN | apply below_drew1 | refine below_set ?_ GE155.out | refine below_set ?_ GE169.out | refine below_set ?_ GE182.out | refine below_set ?_ GE183.out) | exact HB.out)) hb)
                   clear HO130
                   clear HO133
                   clear HO142
                   clear HO145
                   clear HO152
                   clear HO166
                   clear HO172
                   clear HO179
                   clear BK155
                   clear BK169
                   clear BK182
                   clear BK183
                   clear HR187
                   clear HB
                   have HO130 := n0_
                   have HO133 := n1_
                   have HO142 := n2_
                   have HO145 := n3_
                   have HO152 := n4_
                   have HO166 := n5_
                   have HO172 := n6_
                   have HO179 := n7_
                   have HO190 := n8_
                   have BK155 := n9_
                   have BK169 := n10_
                   have BK182 := n11_
                   have BK183 := n12_
                   have HR187 := n13_
                   have HB := n14_
                   clear n0_ n1_ n2_ n3_ n4_ n5_ n6_ n7_ n8_ n9_ n10_ n11_ n12_ n13_ n14_
                   clear hb ho76
                   obtain ⟨Ao77, co77, eo77⟩ := Kd.R_slice HO190.out
                   (first | subst eo77 | (injection eo77 with f1_ f2_ f3_; have f4_ := f1_.symm; have f5_ := f3_.symm; clear f1_ f2_ f3_; subst f4_; subst f5_))
                   refine hK.out _ _ ⟨(blk_cell BK155.out 0).trans rfl, (blk_cell BK155.out 1).trans rfl, (blk_cell BK155.out 2).trans rfl, (blk_cell BK155.out 3).trans rfl, (blk_cell BK155.out 4).trans rfl, (blk_cell BK183.out 0).trans rfl, (blk_cell BK183.out 1).trans rfl, (blk_cell BK183.out 2).trans rfl, (blk_cell BK183.out 3).trans rfl, (blk_cell BK183.out 4).trans rfl⟩ (fun hHeld => ?_)
                   clear hK K
                   refine norm_ (a' := ?_) ?_ ?_
                   rotate_left
                   ·show Act.put _ (some 47) _ = _
                    simp only [Act.put, HW.LA, HW.LZ, HW.LS, i64_w, i32_w]
                    rfl
                   refine one_ (i := 7) (N := some 48) #[true, true, true, true, true, true, true, true, false, false, false, false, false, false, false, false, false, false, false, false, false, false, false, false, false, false, false, false, false, false, false, false, false, false, false, false, false, false, false, false, false, false, false, false, false, false, false, false, false, false, false, false, false, false, false, false, false, false, false, false, false, false, false] rfl rfl (one_of HT_.out (by kernel_rfl)) (by decide) (fun K hK => ?_)
                   refine goes_ Try.func16 (by kernel_rfl) rfl #[.slice Ao41 y184.length co41, .slice Ao77 y188.length co77] (by rfl) rfl rfl (by (try simp only [List.map_toArray, List.map_cons, List.map_nil]); first | done | rfl | (simp only [List.length_drop, List.length_take]; rfl)) ?_
                   with_reducible refine (phaetonref01_Same.calls k _ _ y184 _ _ y188 true _ ?side1 ?side2 ?side3 ?side4 A13.out).mono ?_
                   (case side1 => repeat (first | exact (by repeat (first | (with_reducible exact HR187.out) | (with_reducible refine Kd.C_alloc ?_ _) | (with_reducible refine Kd.C_drewN ?_ _) | (with_reducible refine Kd.C_drew ?_) | exact HR187.out)) | (with_reducible refine Kd.C_alloc ?_ _) | (with_reducible refine Kd.C_drewN ?_ _) | (with_reducible refine Kd.C_drew ?_)))
                   (case side2 => exact HC187.out)
                   (case side3 => repeat (first | exact (Kd.R_reads' HO190.out).2.2 | (with_reducible refine Kd.C_alloc ?_ _) | (with_reducible refine Kd.C_drewN ?_ _) | (with_reducible refine Kd.C_drew ?_)))
                   (case side4 => exact (Kd.R_reads' HO190.out).2.1)
                   rintro e w' ⟨rfl, ⟨nd, rfl⟩⟩
                   refine ⟨_, rfl, ?_⟩
                   refine hK.out _ _ ⟨(blk_cell BK155.out 0).trans rfl, (blk_cell BK155.out 1).trans rfl, (blk_cell BK155.out 2).trans rfl, (blk_cell BK155.out 3).trans rfl, (blk_cell BK155.out 4).trans rfl, (blk_cell BK183.out 0).trans rfl, (blk_cell BK183.out 1).trans rfl, (blk_cell BK183.out 2).trans rfl, (blk_cell BK183.out 3).trans rfl, (blk_cell BK183.out 4).trans rfl⟩ (fun hHeld => ?_)
                   clear hK K
                   refine norm_ (a' := ?_) ?_ ?_
                   rotate_left
                   ·show Act.put _ (some 48) _ = _
                    simp only [Act.put, HW.LA, HW.LZ, HW.LS, i64_w, i32_w]
                    rfl
                   refine pure_ (i := 8) (N := some 49) (v := ?_) (a' := ?_) #[true, true, true, true, true, true, true, true, true, false, false, false, false, false, false, false, false, false, false, false, false, false, false, false, false, false, false, false, false, false, false, false, false, false, false, false, false, false, false, false, false, false, false, false, false, false, false, false, false, false, false, false, false, false, false, false, false, false, false, false, false, false, false] rfl rfl (any_of HT_.out (by kernel_rfl)) (fun _ _ _ h => h) (Or.inl ⟨by rfl, ?_⟩) ?_ ?_
                   rotate_left
                   ·intro w'
                    go_simp
                    with_reducible rfl
                   rotate_left
                   ·simp only [Act.put, HW.LA, HW.LZ, HW.LS, i64_w, i32_w]
                    rfl
                   refine pure_ (i := 9) (N := some 50) (v := ?_) (a' := ?_) #[true, true, true, true, true, true, true, true, true, true, false, false, false, false, false, false, false, false, false, false, false, false, false, false, false, false, false, false, false, false, false, false, false, false, false, false, false, false, false, false, false, false, false, false, false, false, false, false, false, false, false, false, false, false, false, false, false, false, false, false, false, false, false] rfl rfl (any_of HT_.out (by kernel_rfl)) (fun _ _ _ h => h) (Or.inl ⟨by rfl, ?_⟩) ?_ ?_
                   rotate_left
                   ·intro w'
                    go_simp
                    with_reducible rfl
                   rotate_left
                   ·simp only [Act.put, HW.LA, HW.LZ, HW.LS, i64_w, i32_w]
                    rfl
                   refine take_ (i := 10) (N := some 51) (v := ?_) (a' := ?_) #[true, true, true, true, true, true, true, true, true, true, true, false, false, false, false, false, false, false, false, false, false, false, false, false, false, false, false, false, false, false, false, false, false, false, false, false, false, false, false, false, false, false, false, false, false, false, false, false, false, false, false, false, false, false, false, false, false, false, false, false, false, false, false] rfl rfl (take_ofW HT_.out HW_.out (by kernel_rfl)) (fun _ _ _ h => h) (Or.inl ⟨by rfl, ?_⟩) hHeld ?_ ?_
                   rotate_left
                   ·rintro w' ⟨s0, s1, s2, s3, s4, s5, s6, s7, s8, s9⟩
                    go_simp
                    with_reducible rfl
                   rotate_left
                   ·simp only [Act.put, HW.LA, HW.LZ, HW.LS, i64_w, i32_w]
                    rfl
                   refine one_ (i := 11) (N := some 52) #[true, true, true, true, true, true, true, true, true, true, true, true, false, false, false, false, false, false, false, false, false, false, false, false, false, false, false, false, false, false, false, false, false, false, false, false, false, false, false, false, false, false, false, false, false, false, false, false, false, false, false, false, false, false, false, false, false, false, false, false, false, false, false] rfl rfl (one_of HT_.out (by kernel_rfl)) (by decide) (fun K hK => ?_)
                   refine goes_ Try.func26 (by kernel_rfl) rfl #[] (by rfl) rfl rfl (by (try simp only [List.map_toArray, List.map_cons, List.map_nil]); first | done | rfl | (simp only [List.length_drop, List.length_take]; rfl)) ?_
                   with_reducible refine (phaetonlaw04_One.calls  t192 t193 t194 t195 t196 _ A15.out).mono ?_
                   rintro e w78 ⟨v197, rfl, ho0, hb⟩
                   refine ⟨_, rfl, ?_⟩
                   have n0_ := Aside0.mk (Kd.R_elder' (by (with_reducible repeat (first | apply Kd.R_alloc | apply Kd.R_drewN | apply Kd.R_drew)); exact HO130.out) (Kd.R_base ho0) hb)
                   have n1_ := Aside0.mk (Kd.R_below (by (with_reducible repeat (first | apply Kd.R_alloc | apply Kd.R_drewN | apply Kd.R_drew)); exact HO133.out) hb)
                   have n2_ := Aside0.mk (Kd.R_below (by (with_reducible repeat (first | apply Kd.R_alloc | apply Kd.R_drewN | apply Kd.R_drew)); exact HO142.out) hb)
                   have n3_ := Aside0.mk (Kd.R_below (by (with_reducible repeat (first | apply Kd.R_alloc | apply Kd.R_drewN | apply Kd.R_drew)); exact HO145.out) hb)
                   have n4_ := Aside0.mk (Kd.R_elder' (by (with_reducible repeat (first | apply Kd.R_alloc | apply Kd.R_drewN | apply Kd.R_drew)); exact HO152.out) (Kd.R_base ho0) hb)
                   have n5_ := Aside0.mk (Kd.R_elder' (by (with_reducible repeat (first | apply Kd.R_alloc | apply Kd.R_drewN | apply Kd.R_drew)); exact HO166.out) (Kd.R_base ho0) hb)
                   have n6_ := Aside0.mk (Kd.R_below (by (with_reducible repeat (first | apply Kd.R_alloc | apply Kd.R_drewN | apply Kd.R_drew)); exact HO172.out) hb)
                   have n7_ := Aside0.mk (Kd.R_elder' (by (with_reducible repeat (first | apply Kd.R_alloc | apply Kd.R_drewN | apply Kd.R_drew)); exact HO179.out) (Kd.R_base ho0) hb)
                   have n8_ := Aside0.mk (Kd.R_below (by (with_reducible repeat (first | apply Kd.R_alloc | apply Kd.R_drewN | apply Kd.R_drew)); exact HO190.out) hb)
                   have n9_ := Aside0.mk (Kd.R_lower (Kd.R_new' (Kd.R_new' (Kd.R_new' (Kd.R_new' ho0 (Kd.R_lt (by (with_reducible repeat (first | apply Kd.R_alloc | apply Kd.R_drewN | apply Kd.R_drew)); exact HO130.out))) (Kd.R_lt (by (with_reducible repeat (first | apply Kd.R_alloc | apply Kd.R_drewN | apply Kd.R_drew)); exact HO152.out))) (Kd.R_lt (by (with_reducible repeat (first | apply Kd.R_alloc | apply Kd.R_drewN | apply Kd.R_drew)); exact HO166.out))) (Kd.R_lt (by (with_reducible repeat (first | apply Kd.R_alloc | apply Kd.R_drewN | apply Kd.R_drew)); exact HO179.out))) (below_size (by repeat (first | (with_reducible first | exact HB.out | apply below_alloc | apply pw_below_drewN | apply below_drew1 | refine below_set ?_ GE155.out | refine below_set ?_ GE169.out | refine below_set ?_ GE182.out | refine below_set ?_ GE183.out) | exact HB.out))))
                   have n10_ := Aside0.mk (blk_below (g := gb155) (o := .cells #[.bool t146, .int .i64 t147, .bool t148, .int .i64 t149, .slice Ao50 t150.length co50] 24 (0, 0)) (by (with_reducible repeat (first | refine blk_drewN ?_ _ | refine blk_drew ?_ | refine blk_alloc ?_ _)); exact BK155.out) hb)
                   have n11_ := Aside0.mk (blk_below (g := gb169) (o := .cells #[.bool t160, .int .i64 t161, .bool t162, .int .i64 t163, .slice Ao57 t164.length co57] 24 (0, 0)) (by (with_reducible repeat (first | refine blk_drewN ?_ _ | refine blk_drew ?_ | refine blk_alloc ?_ _)); exact BK169.out) hb)
                   have n12_ := Aside0.mk (blk_below (g := gb182) (o := .cells #[.bool t173, .int .i64 t174, .bool t175, .int .i64 t176, .slice Ao66 t177.length co66] 24 (0, 0)) (by (with_reducible repeat (first | refine blk_drewN ?_ _ | refine blk_drew ?_ | refine blk_alloc ?_ _)); exact BK182.out) hb)
                   have n13_ := Aside0.mk (blk_below (g := gb183) (o := .cells #[.bool true, .int .i64 262144, .bool true, .int .i64 3, .slice none 0 0] 24 (0, 0)) (by (with_reducible repeat (first | refine blk_drewN ?_ _ | refine blk_drew ?_ | refine blk_alloc ?_ _)); exact BK183.out) hb)
                   have n14_ := Aside0.mk (Kd.C_below (by repeat (first | (with_reducible exact HR187.out) | (with_reducible refine Kd.C_alloc ?_ _) | (with_reducible refine Kd.C_drewN ?_ _) | (with_reducible refine Kd.C_drew ?_) | exact HR187.out)) hb)
                   have n15_ := Aside0.mk (below_step (by repeat (first | (with_reducible first | exact HB.out | apply below_alloc | apply pw_below_drewN | apply below_drew1 | refine below_set ?_ GE155.out | refine below_set ?_ GE169.out | refine below_set ?_ GE182.out | refine below_set ?_ GE183.out) | exact HB.out)) hb)
                   clear HO130
                   clear HO133
                   clear HO142
                   clear HO145
                   clear HO152
                   clear HO166
                   clear HO172
                   clear HO179
                   clear HO190
                   clear BK155
                   clear BK169
                   clear BK182
                   clear BK183
                   clear HR187
                   clear HB
                   have HO130 := n0_
                   have HO133 := n1_
                   have HO142 := n2_
                   have HO145 := n3_
                   have HO152 := n4_
                   have HO166 := n5_
                   have HO172 := n6_
                   have HO179 := n7_
                   have HO190 := n8_
                   have HO198 := n9_
                   have BK155 := n10_
                   have BK169 := n11_
                   have BK182 := n12_
                   have BK183 := n13_
                   have HR187 := n14_
                   have HB := n15_
                   clear n0_ n1_ n2_ n3_ n4_ n5_ n6_ n7_ n8_ n9_ n10_ n11_ n12_ n13_ n14_ n15_
                   (try clear hb)
                   (try clear hb2)
                   (try clear hk)
                   (try clear hi)
                   (try clear ho0)
                   obtain ⟨Ao79, co79, eo79⟩ := Kd.R_slice HO198.out
                   (first | subst eo79 | (injection eo79 with f1_ f2_ f3_; have f4_ := f1_.symm; have f5_ := f3_.symm; clear f1_ f2_ f3_; subst f4_; subst f5_))
                   refine hK.out _ _ ⟨(blk_cell BK155.out 0).trans rfl, (blk_cell BK155.out 1).trans rfl, (blk_cell BK155.out 2).trans rfl, (blk_cell BK155.out 3).trans rfl, (blk_cell BK155.out 4).trans rfl, (blk_cell BK183.out 0).trans rfl, (blk_cell BK183.out 1).trans rfl, (blk_cell BK183.out 2).trans rfl, (blk_cell BK183.out 3).trans rfl, (blk_cell BK183.out 4).trans rfl⟩ (fun hHeld => ?_)
                   clear hK K
                   refine norm_ (a' := ?_) ?_ ?_
                   rotate_left
                   ·show Act.put _ (some 52) _ = _
                    simp only [Act.put, HW.LA, HW.LZ, HW.LS, i64_w, i32_w]
                    rfl
                   refine one_ (i := 12) (N := some 53) #[true, true, true, true, true, true, true, true, true, true, true, true, true, false, false, false, false, false, false, false, false, false, false, false, false, false, false, false, false, false, false, false, false, false, false, false, false, false, false, false, false, false, false, false, false, false, false, false, false, false, false, false, false, false, false, false, false, false, false, false, false, false, false] rfl rfl (one_of HT_.out (by kernel_rfl)) (by decide) (fun K hK => ?_)
                   refine goes_ Try.func15 (by kernel_rfl) rfl #[.agg #[.bool t146, .int .i64 t147, .bool t148, .int .i64 t149, .slice Ao50 t150.length co50], .agg #[.bool t192, .int .i64 t193, .bool t194, .int .i64 t195, .slice Ao79 t196.length co79]] (by rfl) rfl rfl (by (try simp only [List.map_toArray, List.map_cons, List.map_nil]); first | done | rfl | (simp only [List.length_drop, List.length_take]; rfl)) ?_
                   with_reducible refine (phaetonref04_Same.calls t146 t147 t148 t149 _ _ t150 t192 t193 t194 t195 _ _ t196 true _ ?side1 ?side2 ?side3 ?side4 A16.out).mono ?_
                   (case side1 => repeat (first | exact (Kd.R_reads' HO152.out).2.2 | (with_reducible refine Kd.C_alloc ?_ _) | (with_reducible refine Kd.C_drewN ?_ _) | (with_reducible refine Kd.C_drew ?_)))
                   (case side2 => exact (Kd.R_reads' HO152.out).2.1)
                   (case side3 => repeat (first | exact (Kd.R_reads' HO198.out).2.2 | (with_reducible refine Kd.C_alloc ?_ _) | (with_reducible refine Kd.C_drewN ?_ _) | (with_reducible refine Kd.C_drew ?_)))
                   (case side4 => exact (Kd.R_reads' HO198.out).2.1)
                   rintro e w80 ⟨rfl, hb⟩
                   refine ⟨_, rfl, ?_⟩
                   have n0_ := Aside0.mk (Kd.R_below (by (with_reducible repeat (first | apply Kd.R_alloc | apply Kd.R_drewN | apply Kd.R_drew)); exact HO130.out) hb)
                   have n1_ := Aside0.mk (Kd.R_below (by (with_reducible repeat (first | apply Kd.R_alloc | apply Kd.R_drewN | apply Kd.R_drew)); exact HO133.out) hb)
                   have n2_ := Aside0.mk (Kd.R_below (by (with_reducible repeat (first | apply Kd.R_alloc | apply Kd.R_drewN | apply Kd.R_drew)); exact HO142.out) hb)
                   have n3_ := Aside0.mk (Kd.R_below (by (with_reducible repeat (first | apply Kd.R_alloc | apply Kd.R_drewN | apply Kd.R_drew)); exact HO145.out) hb)
                   have n4_ := Aside0.mk (Kd.R_below (by (with_reducible repeat (first | apply Kd.R_alloc | apply Kd.R_drewN | apply Kd.R_drew)); exact HO152.out) hb)
                   have n5_ := Aside0.mk (Kd.R_below (by (with_reducible repeat (first | apply Kd.R_alloc | apply Kd.R_drewN | apply Kd.R_drew)); exact HO166.out) hb)
                   have n6_ := Aside0.mk (Kd.R_below (by (with_reducible repeat (first | apply Kd.R_alloc | apply Kd.R_drewN | apply Kd.R_drew)); exact HO172.out) hb)
                   have n7_ := Aside0.mk (Kd.R_below (by (with_reducible repeat (first | apply Kd.R_alloc | apply Kd.R_drewN | apply Kd.R_drew)); exact HO179.out) hb)
                   have n8_ := Aside0.mk (Kd.R_below (by (with_reducible repeat (first | apply Kd.R_alloc | apply Kd.R_drewN | apply Kd.R_drew)); exact HO190.out) hb)
                   have n9_ := Aside0.mk (Kd.R_below (by (with_reducible repeat (first | apply Kd.R_alloc | apply Kd.R_drewN | apply Kd.R_drew)); exact HO198.out) hb)
                   have n10_ := Aside0.mk (blk_below (g := gb155) (o := .cells #[.bool t146, .int .i64 t147, .bool t148, .int .i64 t149, .slice Ao50 t150.length co50] 24 (0, 0)) (by (with_reducible repeat (first | refine blk_drewN ?_ _ | refine blk_drew ?_ | refine blk_alloc ?_ _)); exact BK155.out) hb)
                   have n11_ := Aside0.mk (blk_below (g := gb169) (o := .cells #[.bool t160, .int .i64 t161, .bool t162, .int .i64 t163, .slice Ao57 t164.length co57] 24 (0, 0)) (by (with_reducible repeat (first | refine blk_drewN ?_ _ | refine blk_drew ?_ | refine blk_alloc ?_ _)); exact BK169.out) hb)
                   have n12_ := Aside0.mk (blk_below (g := gb182) (o := .cells #[.bool t173, .int .i64 t174, .bool t175, .int .i64 t176, .slice Ao66 t177.length co66] 24 (0, 0)) (by (with_reducible repeat (first | refine blk_drewN ?_ _ | refine blk_drew ?_ | refine blk_alloc ?_ _)); exact BK182.out) hb)
                   have n13_ := Aside0.mk (blk_below (g := gb183) (o := .cells #[.bool true, .int .i64 262144, .bool true, .int .i64 3, .slice none 0 0] 24 (0, 0)) (by (with_reducible repeat (first | refine blk_drewN ?_ _ | refine blk_drew ?_ | refine blk_alloc ?_ _)); exact BK183.out) hb)
                   have n14_ := Aside0.mk (Kd.C_below (by repeat (first | (with_reducible exact HR187.out) | (with_reducible refine Kd.C_alloc ?_ _) | (with_reducible refine Kd.C_drewN ?_ _) | (with_reducible refine Kd.C_drew ?_) | exact HR187.out)) hb)
                   have n15_ := Aside0.mk (below_step (by repeat (first | (with_reducible first | exact HB.out | apply below_alloc | apply pw_below_drewN | apply below_drew1 | refine below_set ?_ GE155.out | refine below_set ?_ GE169.out | refine below_set ?_ GE182.out | refine below_set ?_ GE183.out) | exact HB.out)) hb)
                   clear HO130
                   clear HO133
                   clear HO142
                   clear HO145
                   clear HO152
                   clear HO166
                   clear HO172
                   clear HO179
                   clear HO190
                   clear HO198
                   clear BK155
                   clear BK169
                   clear BK182
                   clear BK183
                   clear HR187
                   clear HB
                   have HO130 := n0_
                   have HO133 := n1_
                   have HO142 := n2_
                   have HO145 := n3_
                   have HO152 := n4_
                   have HO166 := n5_
                   have HO172 := n6_
                   have HO179 := n7_
                   have HO190 := n8_
                   have HO198 := n9_
                   have BK155 := n10_
                   have BK169 := n11_
                   have BK182 := n12_
                   have BK183 := n13_
                   have HR187 := n14_
                   have HB := n15_
                   clear n0_ n1_ n2_ n3_ n4_ n5_ n6_ n7_ n8_ n9_ n10_ n11_ n12_ n13_ n14_ n15_
                   (try clear hb)
                   (try clear hb2)
                   (try clear hk)
                   (try clear hi)
                   refine hK.out _ _ ⟨(blk_cell BK155.out 0).trans rfl, (blk_cell BK155.out 1).trans rfl, (blk_cell BK155.out 2).trans rfl, (blk_cell BK155.out 3).trans rfl, (blk_cell BK155.out 4).trans rfl, (blk_cell BK183.out 0).trans rfl, (blk_cell BK183.out 1).trans rfl, (blk_cell BK183.out 2).trans rfl, (blk_cell BK183.out 3).trans rfl, (blk_cell BK183.out 4).trans rfl⟩ (fun hHeld => ?_)
                   clear hK K
                   refine norm_ (a' := ?_) ?_ ?_
                   rotate_left
                   ·show Act.put _ (some 53) _ = _
                    simp only [Act.put, HW.LA, HW.LZ, HW.LS, i64_w, i32_w]
                    rfl
                   refine pure_ (i := 13) (N := some 54) (v := ?_) (a' := ?_) #[true, true, true, true, true, true, true, true, true, true, true, true, true, true, false, false, false, false, false, false, false, false, false, false, false, false, false, false, false, false, false, false, false, false, false, false, false, false, false, false, false, false, false, false, false, false, false, false, false, false, false, false, false, false, false, false, false, false, false, false, false, false, false] rfl rfl (any_of HT_.out (by kernel_rfl)) (fun _ _ _ h => h) (Or.inl ⟨by rfl, ?_⟩) ?_ ?_
                   rotate_left
                   ·intro w'
                    go_simp
                    with_reducible rfl
                   rotate_left
                   ·simp only [Act.put, HW.LA, HW.LZ, HW.LS, i64_w, i32_w]
                    rfl
                   refine pure_ (i := 14) (N := some 55) (v := ?_) (a' := ?_) #[true, true, true, true, true, true, true, true, true, true, true, true, true, true, true, false, false, false, false, false, false, false, false, false, false, false, false, false, false, false, false, false, false, false, false, false, false, false, false, false, false, false, false, false, false, false, false, false, false, false, false, false, false, false, false, false, false, false, false, false, false, false, false] rfl rfl (any_of HT_.out (by kernel_rfl)) (fun _ _ _ h => h) (Or.inl ⟨by rfl, ?_⟩) ?_ ?_
                   rotate_left
                   ·intro w'
                    go_simp
                    with_reducible rfl
                   rotate_left
                   ·simp only [Act.put, HW.LA, HW.LZ, HW.LS, i64_w, i32_w]
                    rfl
                   refine pure_ (i := 15) (N := some 56) (v := ?_) (a' := ?_) #[true, true, true, true, true, true, true, true, true, true, true, true, true, true, true, true, false, false, false, false, false, false, false, false, false, false, false, false, false, false, false, false, false, false, false, false, false, false, false, false, false, false, false, false, false, false, false, false, false, false, false, false, false, false, false, false, false, false, false, false, false, false, false] rfl rfl (any_of HT_.out (by kernel_rfl)) (fun _ _ _ h => h) (Or.inl ⟨by rfl, ?_⟩) ?_ ?_
                   rotate_left
                   ·intro w'
                    go_simp
                    with_reducible rfl
                   rotate_left
                   ·simp only [Act.put, HW.LA, HW.LZ, HW.LS, i64_w, i32_w]
                    rfl
                   refine pure_ (i := 16) (N := some 57) (v := ?_) (a' := ?_) #[true, true, true, true, true, true, true, true, true, true, true, true, true, true, true, true, true, false, false, false, false, false, false, false, false, false, false, false, false, false, false, false, false, false, false, false, false, false, false, false, false, false, false, false, false, false, false, false, false, false, false, false, false, false, false, false, false, false, false, false, false, false, false] rfl rfl (any_of HT_.out (by kernel_rfl)) (fun _ _ _ h => h) (Or.inl ⟨by rfl, ?_⟩) ?_ ?_
                   rotate_left
                   ·intro w'
                    go_simp
                    with_reducible rfl
                   rotate_left
                   ·simp only [Act.put, HW.LA, HW.LZ, HW.LS, i64_w, i32_w]
                    rfl
                   refine pure_ (i := 17) (N := some 58) (v := ?_) (a' := ?_) #[true, true, true, true, true, true, true, true, true, true, true, true, true, true, true, true, true, true, false, false, false, false, false, false, false, false, false, false, false, false, false, false, false, false, false, false, false, false, false, false, false, false, false, false, false, false, false, false, false, false, false, false, false, false, false, false, false, false, false, false, false, false, false] rfl rfl (any_of HT_.out (by kernel_rfl)) (fun _ _ _ h => h) (Or.inl ⟨by rfl, ?_⟩) ?_ ?_
                   rotate_left
                   ·intro w'
                    go_simp
                    with_reducible rfl
                   rotate_left
                   ·simp only [Act.put, HW.LA, HW.LZ, HW.LS, i64_w, i32_w]
                    rfl
                   refine pure_ (i := 18) (N := some 59) (v := ?_) (a' := ?_) #[true, true, true, true, true, true, true, true, true, true, true, true, true, true, true, true, true, true, true, false, false, false, false, false, false, false, false, false, false, false, false, false, false, false, false, false, false, false, false, false, false, false, false, false, false, false, false, false, false, false, false, false, false, false, false, false, false, false, false, false, false, false, false] rfl rfl (any_of HT_.out (by kernel_rfl)) (fun _ _ _ h => h) (Or.inl ⟨by rfl, ?_⟩) ?_ ?_
                   rotate_left
                   ·intro w'
                    go_simp
                    with_reducible rfl
                   rotate_left
                   ·simp only [Act.put, HW.LA, HW.LZ, HW.LS, i64_w, i32_w]
                    rfl
                   refine pure_ (i := 19) (N := some 60) (v := ?_) (a' := ?_) #[true, true, true, true, true, true, true, true, true, true, true, true, true, true, true, true, true, true, true, true, false, false, false, false, false, false, false, false, false, false, false, false, false, false, false, false, false, false, false, false, false, false, false, false, false, false, false, false, false, false, false, false, false, false, false, false, false, false, false, false, false, false, false] rfl rfl (any_of HT_.out (by kernel_rfl)) (fun _ _ _ h => h) (Or.inl ⟨by rfl, ?_⟩) ?_ ?_
                   rotate_left
                   ·intro w'
                    go_simp
                    with_reducible rfl
                   rotate_left
                   ·simp only [Act.put, HW.LA, HW.LZ, HW.LS, i64_w, i32_w]
                    rfl
                   refine pure_ (i := 20) (N := some 61) (v := ?_) (a' := ?_) #[true, true, true, true, true, true, true, true, true, true, true, true, true, true, true, true, true, true, true, true, true, false, false, false, false, false, false, false, false, false, false, false, false, false, false, false, false, false, false, false, false, false, false, false, false, false, false, false, false, false, false, false, false, false, false, false, false, false, false, false, false, false, false] rfl rfl (any_of HT_.out (by kernel_rfl)) (fun _ _ _ h => h) (Or.inl ⟨by rfl, ?_⟩) ?_ ?_
                   rotate_left
                   ·intro w'
                    go_simp
                    with_reducible rfl
                   rotate_left
                   ·simp only [Act.put, HW.LA, HW.LZ, HW.LS, i64_w, i32_w]
                    rfl
                   refine pure_ (i := 21) (N := some 62) (v := ?_) (a' := ?_) #[true, true, true, true, true, true, true, true, true, true, true, true, true, true, true, true, true, true, true, true, true, true, false, false, false, false, false, false, false, false, false, false, false, false, false, false, false, false, false, false, false, false, false, false, false, false, false, false, false, false, false, false, false, false, false, false, false, false, false, false, false, false, false] rfl rfl (any_of HT_.out (by kernel_rfl)) (fun _ _ _ h => h) (Or.inl ⟨by rfl, ?_⟩) ?_ ?_
                   rotate_left
                   ·intro w'
                    go_simp
                    with_reducible rfl
                   rotate_left
                   ·simp only [Act.put, HW.LA, HW.LZ, HW.LS, i64_w, i32_w]
                    rfl
                   refine pure_ (i := 22) (N := some 63) (v := ?_) (a' := ?_) #[true, true, true, true, true, true, true, true, true, true, true, true, true, true, true, true, true, true, true, true, true, true, true, false, false, false, false, false, false, false, false, false, false, false, false, false, false, false, false, false, false, false, false, false, false, false, false, false, false, false, false, false, false, false, false, false, false, false, false, false, false, false, false] rfl rfl (any_of HT_.out (by kernel_rfl)) (fun _ _ _ h => h) (Or.inl ⟨by rfl, ?_⟩) ?_ ?_
                   rotate_left
                   ·intro w'
                    go_simp
                    with_reducible rfl
                   rotate_left
                   ·simp only [Act.put, HW.LA, HW.LZ, HW.LS, i64_w, i32_w]
                    rfl
                   refine pure_ (i := 23) (N := some 64) (v := ?_) (a' := ?_) #[true, true, true, true, true, true, true, true, true, true, true, true, true, true, true, true, true, true, true, true, true, true, true, true, false, false, false, false, false, false, false, false, false, false, false, false, false, false, false, false, false, false, false, false, false, false, false, false, false, false, false, false, false, false, false, false, false, false, false, false, false, false, false] rfl rfl (any_of HT_.out (by kernel_rfl)) (fun _ _ _ h => h) (Or.inl ⟨by rfl, ?_⟩) ?_ ?_
                   rotate_left
                   ·intro w'
                    go_simp
                    with_reducible rfl
                   rotate_left
                   ·simp only [Act.put, HW.LA, HW.LZ, HW.LS, i64_w, i32_w]
                    rfl
                   refine pure_ (i := 24) (N := some 65) (v := ?_) (a' := ?_) #[true, true, true, true, true, true, true, true, true, true, true, true, true, true, true, true, true, true, true, true, true, true, true, true, true, false, false, false, false, false, false, false, false, false, false, false, false, false, false, false, false, false, false, false, false, false, false, false, false, false, false, false, false, false, false, false, false, false, false, false, false, false, false] rfl rfl (any_of HT_.out (by kernel_rfl)) (fun _ _ _ h => h) (Or.inl ⟨by rfl, ?_⟩) ?_ ?_
                   rotate_left
                   ·intro w'
                    go_simp
                    with_reducible rfl
                   rotate_left
                   ·simp only [Act.put, HW.LA, HW.LZ, HW.LS, i64_w, i32_w]
                    rfl
                   refine pure_ (i := 25) (N := some 66) (v := ?_) (a' := ?_) #[true, true, true, true, true, true, true, true, true, true, true, true, true, true, true, true, true, true, true, true, true, true, true, true, true, true, false, false, false, false, false, false, false, false, false, false, false, false, false, false, false, false, false, false, false, false, false, false, false, false, false, false, false, false, false, false, false, false, false, false, false, false, false] rfl rfl (any_of HT_.out (by kernel_rfl)) (fun _ _ _ h => h) (Or.inl ⟨by rfl, ?_⟩) ?_ ?_
                   rotate_left
                   ·intro w'
                    go_simp
                    with_reducible rfl
                   rotate_left
                   ·simp only [Act.put, HW.LA, HW.LZ, HW.LS, i64_w, i32_w]
                    rfl
                   refine pure_ (i := 26) (N := some 67) (v := ?_) (a' := ?_) #[true, true, true, true, true, true, true, true, true, true, true, true, true, true, true, true, true, true, true, true, true, true, true, true, true, true, true, false, false, false, false, false, false, false, false, false, false, false, false, false, false, false, false, false, false, false, false, false, false, false, false, false, false, false, false, false, false, false, false, false, false, false, false] rfl rfl (any_of HT_.out (by kernel_rfl)) (fun _ _ _ h => h) (Or.inl ⟨by rfl, ?_⟩) ?_ ?_
                   rotate_left
                   ·intro w'
                    go_simp
                    with_reducible rfl
                   rotate_left
                   ·simp only [Act.put, HW.LA, HW.LZ, HW.LS, i64_w, i32_w]
                    rfl
                   refine pure_ (i := 27) (N := some 68) (v := ?_) (a' := ?_) #[true, true, true, true, true, true, true, true, true, true, true, true, true, true, true, true, true, true, true, true, true, true, true, true, true, true, true, true, false, false, false, false, false, false, false, false, false, false, false, false, false, false, false, false, false, false, false, false, false, false, false, false, false, false, false, false, false, false, false, false, false, false, false] rfl rfl (any_of HT_.out (by kernel_rfl)) (fun _ _ _ h => h) (Or.inl ⟨by rfl, ?_⟩) ?_ ?_
                   rotate_left
                   ·intro w'
                    go_simp
                    with_reducible rfl
                   rotate_left
                   ·simp only [Act.put, HW.LA, HW.LZ, HW.LS, i64_w, i32_w]
                    rfl
                   refine pure_ (i := 28) (N := some 69) (v := ?_) (a' := ?_) #[true, true, true, true, true, true, true, true, true, true, true, true, true, true, true, true, true, true, true, true, true, true, true, true, true, true, true, true, true, false, false, false, false, false, false, false, false, false, false, false, false, false, false, false, false, false, false, false, false, false, false, false, false, false, false, false, false, false, false, false, false, false, false] rfl rfl (any_of HT_.out (by kernel_rfl)) (fun _ _ _ h => h) (Or.inl ⟨by rfl, ?_⟩) ?_ ?_
                   rotate_left
                   ·intro w'
                    go_simp
                    with_reducible rfl
                   rotate_left
                   ·simp only [Act.put, HW.LA, HW.LZ, HW.LS, i64_w, i32_w]
                    rfl
                   refine pure_ (i := 29) (N := some 70) (v := ?_) (a' := ?_) #[true, true, true, true, true, true, true, true, true, true, true, true, true, true, true, true, true, true, true, true, true, true, true, true, true, true, true, true, true, true, false, false, false, false, false, false, false, false, false, false, false, false, false, false, false, false, false, false, false, false, false, false, false, false, false, false, false, false, false, false, false, false, false] rfl rfl (any_of HT_.out (by kernel_rfl)) (fun _ _ _ h => h) (Or.inl ⟨by rfl, ?_⟩) ?_ ?_
                   rotate_left
                   ·intro w'
                    go_simp
                    with_reducible rfl
                   rotate_left
                   ·simp only [Act.put, HW.LA, HW.LZ, HW.LS, i64_w, i32_w]
                    rfl
                   refine pure_ (i := 30) (N := some 71) (v := ?_) (a' := ?_) #[true, true, true, true, true, true, true, true, true, true, true, true, true, true, true, true, true, true, true, true, true, true, true, true, true, true, true, true, true, true, true, false, false, false, false, false, false, false, false, false, false, false, false, false, false, false, false, false, false, false, false, false, false, false, false, false, false, false, false, false, false, false, false] rfl rfl (any_of HT_.out (by kernel_rfl)) (fun _ _ _ h => h) (Or.inl ⟨by rfl, ?_⟩) ?_ ?_
                   rotate_left
                   ·intro w'
                    go_simp
                    with_reducible rfl
                   rotate_left
                   ·simp only [Act.put, HW.LA, HW.LZ, HW.LS, i64_w, i32_w]
                    rfl
                   refine take_ (i := 31) (N := some 72) (v := ?_) (a' := ?_) #[true, true, true, true, true, true, true, true, true, true, true, true, true, true, true, true, true, true, true, true, true, true, true, true, true, true, true, true, true, true, true, true, false, false, false, false, false, false, false, false, false, false, false, false, false, false, false, false, false, false, false, false, false, false, false, false, false, false, false, false, false, false, false] rfl rfl (take_ofW HT_.out HW_.out (by kernel_rfl)) (fun _ _ _ h => h) (Or.inl ⟨by rfl, ?_⟩) hHeld ?_ ?_
                   rotate_left
                   ·rintro w' ⟨s0, s1, s2, s3, s4, s5, s6, s7, s8, s9⟩
                    go_simp
                    with_reducible rfl
                   rotate_left
                   ·simp only [Act.put, HW.LA, HW.LZ, HW.LS, i64_w, i32_w]
                    rfl
                   refine one_ (i := 32) (N := some 73) #[true, true, true, true, true, true, true, true, true, true, true, true, true, true, true, true, true, true, true, true, true, true, true, true, true, true, true, true, true, true, true, true, true, false, false, false, false, false, false, false, false, false, false, false, false, false, false, false, false, false, false, false, false, false, false, false, false, false, false, false, false, false, false] rfl rfl (one_of HT_.out (by kernel_rfl)) (by decide) (fun K hK => ?_)
                   refine goes_ Try.func19 (by kernel_rfl) rfl #[.agg #[.bool true, .int .i64 262144, .bool true, .int .i64 3, .slice none 0 0]] (by rfl) rfl rfl (by (try simp only [List.map_toArray, List.map_cons, List.map_nil]); first | done | rfl | (simp only [List.length_drop, List.length_take]; rfl)) ?_
                   refine (frame_Rank.calls true 262144 true 3 _ _ ([] : List Int) t200 _ ?side1 ?side2 A22.out).mono ?_
                   (case side1 => exact Kd.C_nil _ _)
                   (case side2 => exact Nat.le_refl _)
                   rintro e w81 ⟨v201, rfl, ho0, hb⟩
                   refine ⟨_, rfl, ?_⟩
                   have n0_ := Aside0.mk (Kd.R_below (by (with_reducible repeat (first | apply Kd.R_alloc | apply Kd.R_drewN | apply Kd.R_drew)); exact HO130.out) hb)
                   have n1_ := Aside0.mk (Kd.R_elder' (by (with_reducible repeat (first | apply Kd.R_alloc | apply Kd.R_drewN | apply Kd.R_drew)); exact HO133.out) (Kd.R_base ho0) hb)
                   have n2_ := Aside0.mk (Kd.R_elder' (by (with_reducible repeat (first | apply Kd.R_alloc | apply Kd.R_drewN | apply Kd.R_drew)); exact HO142.out) (Kd.R_base ho0) hb)
                   have n3_ := Aside0.mk (Kd.R_elder' (by (with_reducible repeat (first | apply Kd.R_alloc | apply Kd.R_drewN | apply Kd.R_drew)); exact HO145.out) (Kd.R_base ho0) hb)
                   have n4_ := Aside0.mk (Kd.R_below (by (with_reducible repeat (first | apply Kd.R_alloc | apply Kd.R_drewN | apply Kd.R_drew)); exact HO152.out) hb)
                   have n5_ := Aside0.mk (Kd.R_below (by (with_reducible repeat (first | apply Kd.R_alloc | apply Kd.R_drewN | apply Kd.R_drew)); exact HO166.out) hb)
                   have n6_ := Aside0.mk (Kd.R_elder' (by (with_reducible repeat (first | apply Kd.R_alloc | apply Kd.R_drewN | apply Kd.R_drew)); exact HO172.out) (Kd.R_base ho0) hb)
                   have n7_ := Aside0.mk (Kd.R_below (by (with_reducible repeat (first | apply Kd.R_alloc | apply Kd.R_drewN | apply Kd.R_drew)); exact HO179.out) hb)
                   have n8_ := Aside0.mk (Kd.R_elder' (by (with_reducible repeat (first | apply Kd.R_alloc | apply Kd.R_drewN | apply Kd.R_drew)); exact HO190.out) (Kd.R_base ho0) hb)
                   have n9_ := Aside0.mk (Kd.R_below (by (with_reducible repeat (first | apply Kd.R_alloc | apply Kd.R_drewN | apply Kd.R_drew)); exact HO198.out) hb)
                   have n10_ := Aside0.mk (Kd.R_lower (Kd.R_new' (Kd.R_new' (Kd.R_new' (Kd.R_new' (Kd.R_new' ho0 (Kd.R_lt (by (with_reducible repeat (first | apply Kd.R_alloc | apply Kd.R_drewN | apply Kd.R_drew)); exact HO133.out))) (Kd.R_lt (by (with_reducible repeat (first | apply Kd.R_alloc | apply Kd.R_drewN | apply Kd.R_drew)); exact HO142.out))) (Kd.R_lt (by (with_reducible repeat (first | apply Kd.R_alloc | apply Kd.R_drewN | apply Kd.R_drew)); exact HO145.out))) (Kd.R_lt (by (with_reducible repeat (first | apply Kd.R_alloc | apply Kd.R_drewN | apply Kd.R_drew)); exact HO172.out))) (Kd.R_lt (by (with_reducible repeat (first | apply Kd.R_alloc | apply Kd.R_drewN | apply Kd.R_drew)); exact HO190.out))) (below_size (by repeat (first | (with_reducible first | exact HB.out | apply below_alloc | apply pw_below_drewN | apply below_drew1 | refine below_set ?_ GE155.out | refine below_set ?_ GE169.out | refine below_set ?_ GE182.out | refine below_set ?_ GE183.out) | exact HB.out))))
                   have n11_ := Aside0.mk (blk_below (g := gb155) (o := .cells #[.bool t146, .int .i64 t147, .bool t148, .int .i64 t149, .slice Ao50 t150.length co50] 24 (0, 0)) (by (with_reducible repeat (first | refine blk_drewN ?_ _ | refine blk_drew ?_ | refine blk_alloc ?_ _)); exact BK155.out) hb)
                   have n12_ := Aside0.mk (blk_below (g := gb169) (o := .cells #[.bool t160, .int .i64 t161, .bool t162, .int .i64 t163, .slice Ao57 t164.length co57] 24 (0, 0)) (by (with_reducible repeat (first | refine blk_drewN ?_ _ | refine blk_drew ?_ | refine blk_alloc ?_ _)); exact BK169.out) hb)
                   have n13_ := Aside0.mk (blk_below (g := gb182) (o := .cells #[.bool t173, .int .i64 t174, .bool t175, .int .i64 t176, .slice Ao66 t177.length co66] 24 (0, 0)) (by (with_reducible repeat (first | refine blk_drewN ?_ _ | refine blk_drew ?_ | refine blk_alloc ?_ _)); exact BK182.out) hb)
                   have n14_ := Aside0.mk (blk_below (g := gb183) (o := .cells #[.bool true, .int .i64 262144, .bool true, .int .i64 3, .slice none 0 0] 24 (0, 0)) (by (with_reducible repeat (first | refine blk_drewN ?_ _ | refine blk_drew ?_ | refine blk_alloc ?_ _)); exact BK183.out) hb)
                   have n15_ := Aside0.mk (Kd.C_below (by repeat (first | (with_reducible exact HR187.out) | (with_reducible refine Kd.C_alloc ?_ _) | (with_reducible refine Kd.C_drewN ?_ _) | (with_reducible refine Kd.C_drew ?_) | exact HR187.out)) hb)
                   have n16_ := Aside0.mk (below_step (by repeat (first | (with_reducible first | exact HB.out | apply below_alloc | apply pw_below_drewN | apply below_drew1 | refine below_set ?_ GE155.out | refine below_set ?_ GE169.out | refine below_set ?_ GE182.out | refine below_set ?_ GE183.out) | exact HB.out)) hb)
                   clear HO130
                   clear HO133
                   clear HO142
                   clear HO145
                   clear HO152
                   clear HO166
                   clear HO172
                   clear HO179
                   clear HO190
                   clear HO198
                   clear BK155
                   clear BK169
                   clear BK182
                   clear BK183
                   clear HR187
                   clear HB
                   have HO130 := n0_
                   have HO133 := n1_
                   have HO142 := n2_
                   have HO145 := n3_
                   have HO152 := n4_
                   have HO166 := n5_
                   have HO172 := n6_
                   have HO179 := n7_
                   have HO190 := n8_
                   have HO198 := n9_
                   have HO202 := n10_
                   have BK155 := n11_
                   have BK169 := n12_
                   have BK182 := n13_
                   have BK183 := n14_
                   have HR187 := n15_
                   have HB := n16_
                   clear n0_ n1_ n2_ n3_ n4_ n5_ n6_ n7_ n8_ n9_ n10_ n11_ n12_ n13_ n14_ n15_ n16_
                   (try clear hb)
                   (try clear hb2)
                   (try clear hk)
                   (try clear hi)
                   (try clear ho0)
                   obtain ⟨Ao82, co82, eo82⟩ := Kd.R_slice HO202.out
                   (first | subst eo82 | (injection eo82 with f1_ f2_ f3_; have f4_ := f1_.symm; have f5_ := f3_.symm; clear f1_ f2_ f3_; subst f4_; subst f5_))
                   refine hK.out _ _ ⟨(blk_cell BK155.out 0).trans rfl, (blk_cell BK155.out 1).trans rfl, (blk_cell BK155.out 2).trans rfl, (blk_cell BK155.out 3).trans rfl, (blk_cell BK155.out 4).trans rfl, (blk_cell BK183.out 0).trans rfl, (blk_cell BK183.out 1).trans rfl, (blk_cell BK183.out 2).trans rfl, (blk_cell BK183.out 3).trans rfl, (blk_cell BK183.out 4).trans rfl⟩ (fun hHeld => ?_)
                   clear hK K
                   refine norm_ (a' := ?_) ?_ ?_
                   rotate_left
                   ·show Act.put _ (some 73) _ = _
                    simp only [Act.put, HW.LA, HW.LZ, HW.LS, i64_w, i32_w]
                    rfl
                   refine pure_ (i := 33) (N := some 74) (v := ?_) (a' := ?_) #[true, true, true, true, true, true, true, true, true, true, true, true, true, true, true, true, true, true, true, true, true, true, true, true, true, true, true, true, true, true, true, true, true, true, false, false, false, false, false, false, false, false, false, false, false, false, false, false, false, false, false, false, false, false, false, false, false, false, false, false, false, false, false] rfl rfl (any_of HT_.out (by kernel_rfl)) (fun _ _ _ h => h) (Or.inl ⟨by rfl, ?_⟩) ?_ ?_
                   rotate_left
                   ·intro w'
                    go_simp
                    with_reducible rfl
                   rotate_left
                   ·simp only [Act.put, HW.LA, HW.LZ, HW.LS, i64_w, i32_w]
                    rfl
                   refine pure_ (i := 34) (N := some 75) (v := ?_) (a' := ?_) #[true, true, true, true, true, true, true, true, true, true, true, true, true, true, true, true, true, true, true, true, true, true, true, true, true, true, true, true, true, true, true, true, true, true, true, false, false, false, false, false, false, false, false, false, false, false, false, false, false, false, false, false, false, false, false, false, false, false, false, false, false, false, false] rfl rfl (any_of HT_.out (by kernel_rfl)) (fun _ _ _ h => h) (Or.inl ⟨by rfl, ?_⟩) ?_ ?_
                   rotate_left
                   ·intro w'
                    go_simp
                    with_reducible rfl
                   rotate_left
                   ·simp only [Act.put, HW.LA, HW.LZ, HW.LS, i64_w, i32_w]
                    rfl
                   refine pure_ (i := 35) (N := some 76) (v := ?_) (a' := ?_) #[true, true, true, true, true, true, true, true, true, true, true, true, true, true, true, true, true, true, true, true, true, true, true, true, true, true, true, true, true, true, true, true, true, true, true, true, false, false, false, false, false, false, false, false, false, false, false, false, false, false, false, false, false, false, false, false, false, false, false, false, false, false, false] rfl rfl (any_of HT_.out (by kernel_rfl)) (fun _ _ _ h => h) (Or.inl ⟨by rfl, ?_⟩) ?_ ?_
                   rotate_left
                   ·intro w'
                    go_simp
                    with_reducible rfl
                   rotate_left
                   ·simp only [Act.put, HW.LA, HW.LZ, HW.LS, i64_w, i32_w]
                    rfl
                   refine pure_ (i := 36) (N := some 77) (v := ?_) (a' := ?_) #[true, true, true, true, true, true, true, true, true, true, true, true, true, true, true, true, true, true, true, true, true, true, true, true, true, true, true, true, true, true, true, true, true, true, true, true, true, false, false, false, false, false, false, false, false, false, false, false, false, false, false, false, false, false, false, false, false, false, false, false, false, false, false] rfl rfl (any_of HT_.out (by kernel_rfl)) (fun _ _ _ h => h) (Or.inl ⟨by rfl, ?_⟩) ?_ ?_
                   rotate_left
                   ·intro w'
                    go_simp
                    with_reducible rfl
                   rotate_left
                   ·simp only [Act.put, HW.LA, HW.LZ, HW.LS, i64_w, i32_w]
                    rfl
                   refine take_ (i := 37) (N := some 78) (v := ?_) (a' := ?_) #[true, true, true, true, true, true, true, true, true, true, true, true, true, true, true, true, true, true, true, true, true, true, true, true, true, true, true, true, true, true, true, true, true, true, true, true, true, true, false, false, false, false, false, false, false, false, false, false, false, false, false, false, false, false, false, false, false, false, false, false, false, false, false] rfl rfl (take_ofW HT_.out HW_.out (by kernel_rfl)) (fun _ _ _ h => h) (Or.inl ⟨by rfl, ?_⟩) hHeld ?_ ?_
                   rotate_left
                   ·rintro w' ⟨s0, s1, s2, s3, s4, s5, s6, s7, s8, s9⟩
                    go_simp
                    with_reducible rfl
                   rotate_left
                   ·simp only [Act.put, HW.LA, HW.LZ, HW.LS, i64_w, i32_w]
                    rfl
                   refine one_ (i := 38) (N := some 79) #[true, true, true, true, true, true, true, true, true, true, true, true, true, true, true, true, true, true, true, true, true, true, true, true, true, true, true, true, true, true, true, true, true, true, true, true, true, true, true, false, false, false, false, false, false, false, false, false, false, false, false, false, false, false, false, false, false, false, false, false, false, false, false] rfl rfl (one_of HT_.out (by kernel_rfl)) (by decide) (fun K hK => ?_)
                   refine goes_ Try.func17 (by kernel_rfl) rfl #[.agg #[.bool true, .int .i64 262144, .bool true, .int .i64 3, .slice none 0 0]] (by rfl) rfl rfl (by (try simp only [List.map_toArray, List.map_cons, List.map_nil]); first | done | rfl | (simp only [List.length_drop, List.length_take]; rfl)) ?_
                   refine (frame_Head.calls true 262144 true 3 _ _ ([] : List Int) t203 _ ?side1 ?side2 A24.out).mono ?_
                   (case side1 => exact Kd.C_nil _ _)
                   (case side2 => exact Nat.le_refl _)
                   rintro e w83 ⟨v204, rfl, ho0, hb⟩
                   refine ⟨_, rfl, ?_⟩
                   have n0_ := Aside0.mk (Kd.R_below (by (with_reducible repeat (first | apply Kd.R_alloc | apply Kd.R_drewN | apply Kd.R_drew)); exact HO130.out) hb)
                   have n1_ := Aside0.mk (Kd.R_elder' (by (with_reducible repeat (first | apply Kd.R_alloc | apply Kd.R_drewN | apply Kd.R_drew)); exact HO133.out) (Kd.R_base ho0) hb)
                   have n2_ := Aside0.mk (Kd.R_elder' (by (with_reducible repeat (first | apply Kd.R_alloc | apply Kd.R_drewN | apply Kd.R_drew)); exact HO142.out) (Kd.R_base ho0) hb)
                   have n3_ := Aside0.mk (Kd.R_elder' (by (with_reducible repeat (first | apply Kd.R_alloc | apply Kd.R_drewN | apply Kd.R_drew)); exact HO145.out) (Kd.R_base ho0) hb)
                   have n4_ := Aside0.mk (Kd.R_below (by (with_reducible repeat (first | apply Kd.R_alloc | apply Kd.R_drewN | apply Kd.R_drew)); exact HO152.out) hb)
                   have n5_ := Aside0.mk (Kd.R_below (by (with_reducible repeat (first | apply Kd.R_alloc | apply Kd.R_drewN | apply Kd.R_drew)); exact HO166.out) hb)
                   have n6_ := Aside0.mk (Kd.R_elder' (by (with_reducible repeat (first | apply Kd.R_alloc | apply Kd.R_drewN | apply Kd.R_drew)); exact HO172.out) (Kd.R_base ho0) hb)
                   have n7_ := Aside0.mk (Kd.R_below (by (with_reducible repeat (first | apply Kd.R_alloc | apply Kd.R_drewN | apply Kd.R_drew)); exact HO179.out) hb)
                   have n8_ := Aside0.mk (Kd.R_elder' (by (with_reducible repeat (first | apply Kd.R_alloc | apply Kd.R_drewN | apply Kd.R_drew)); exact HO190.out) (Kd.R_base ho0) hb)
                   have n9_ := Aside0.mk (Kd.R_below (by (with_reducible repeat (first | apply Kd.R_alloc | apply Kd.R_drewN | apply Kd.R_drew)); exact HO198.out) hb)
                   have n10_ := Aside0.mk (Kd.R_elder' (by (with_reducible repeat (first | apply Kd.R_alloc | apply Kd.R_drewN | apply Kd.R_drew)); exact HO202.out) (Kd.R_base ho0) hb)
                   have n11_ := Aside0.mk (Kd.R_lower (Kd.R_new' (Kd.R_new' (Kd.R_new' (Kd.R_new' (Kd.R_new' (Kd.R_new' ho0 (Kd.R_lt (by (with_reducible repeat (first | apply Kd.R_alloc | apply Kd.R_drewN | apply Kd.R_drew)); exact HO133.out))) (Kd.R_lt (by (with_reducible repeat (first | apply Kd.R_alloc | apply Kd.R_drewN | apply Kd.R_drew)); exact HO142.out))) (Kd.R_lt (by (with_reducible repeat (first | apply Kd.R_alloc | apply Kd.R_drewN | apply Kd.R_drew)); exact HO145.out))) (Kd.R_lt (by (with_reducible repeat (first | apply Kd.R_alloc | apply Kd.R_drewN | apply Kd.R_drew)); exact HO172.out))) (Kd.R_lt (by (with_reducible repeat (first | apply Kd.R_alloc | apply Kd.R_drewN | apply Kd.R_drew)); exact HO190.out))) (Kd.R_lt (by (with_reducible repeat (first | apply Kd.R_alloc | apply Kd.R_drewN | apply Kd.R_drew)); exact HO202.out))) (below_size (by repeat (first | (with_reducible first | exact HB.out | apply below_alloc | apply pw_below_drewN | apply below_drew1 | refine below_set ?_ GE155.out | refine below_set ?_ GE169.out | refine below_set ?_ GE182.out | refine below_set ?_ GE183.out) | exact HB.out))))
                   have n12_ := Aside0.mk (blk_below (g := gb155) (o := .cells #[.bool t146, .int .i64 t147, .bool t148, .int .i64 t149, .slice Ao50 t150.length co50] 24 (0, 0)) (by (with_reducible repeat (first | refine blk_drewN ?_ _ | refine blk_drew ?_ | refine blk_alloc ?_ _)); exact BK155.out) hb)
                   have n13_ := Aside0.mk (blk_below (g := gb169) (o := .cells #[.bool t160, .int .i64 t161, .bool t162, .int .i64 t163, .slice Ao57 t164.length co57] 24 (0, 0)) (by (with_reducible repeat (first | refine blk_drewN ?_ _ | refine blk_drew ?_ | refine blk_alloc ?_ _)); exact BK169.out) hb)
                   have n14_ := Aside0.mk (blk_below (g := gb182) (o := .cells #[.bool t173, .int .i64 t174, .bool t175, .int .i64 t176, .slice Ao66 t177.length co66] 24 (0, 0)) (by (with_reducible repeat (first | refine blk_drewN ?_ _ | refine blk_drew ?_ | refine blk_alloc ?_ _)); exact BK182.out) hb)
                   have n15_ := Aside0.mk (blk_below (g := gb183) (o := .cells #[.bool true, .int .i64 262144, .bool true, .int .i64 3, .slice none 0 0] 24 (0, 0)) (by (with_reducible repeat (first | refine blk_drewN ?_ _ | refine blk_drew ?_ | refine blk_alloc ?_ _)); exact BK183.out) hb)
                   have n16_ := Aside0.mk (Kd.C_below (by repeat (first | (with_reducible exact HR187.out) | (with_reducible refine Kd.C_alloc ?_ _) | (with_reducible refine Kd.C_drewN ?_ _) | (with_reducible refine Kd.C_drew ?_) | exact HR187.out)) hb)
                   have n17_ := Aside0.mk (below_step (by repeat (first | (with_reducible first | exact HB.out | apply below_alloc | apply pw_below_drewN | apply below_drew1 | refine below_set ?_ GE155.out | refine below_set ?_ GE169.out | refine below_set ?_ GE182.out | refine below_set ?_ GE183.out) | exact HB.out)) hb)
                   clear HO130
                   clear HO133
                   clear HO142
                   clear HO145
                   clear HO152
                   clear HO166
                   clear HO172
                   clear HO179
                   clear HO190
                   clear HO198
                   clear HO202
                   clear BK155
                   clear BK169
                   clear BK182
                   clear BK183
                   clear HR187
                   clear HB
                   have HO130 := n0_
                   have HO133 := n1_
                   have HO142 := n2_
                   have HO145 := n3_
                   have HO152 := n4_
                   have HO166 := n5_
                   have HO172 := n6_
                   have HO179 := n7_
                   have HO190 := n8_
                   have HO198 := n9_
                   have HO202 := n10_
                   have HO205 := n11_
                   have BK155 := n12_
                   have BK169 := n13_
                   have BK182 := n14_
                   have BK183 := n15_
                   have HR187 := n16_
                   have HB := n17_
                   clear n0_ n1_ n2_ n3_ n4_ n5_ n6_ n7_ n8_ n9_ n10_ n11_ n12_ n13_ n14_ n15_ n16_ n17_
                   (try clear hb)
                   (try clear hb2)
                   (try clear hk)
                   (try clear hi)
                   (try clear ho0)
                   obtain ⟨Ao84, co84, eo84⟩ := Kd.R_slice HO205.out
                   (first | subst eo84 | (injection eo84 with f1_ f2_ f3_; have f4_ := f1_.symm; have f5_ := f3_.symm; clear f1_ f2_ f3_; subst f4_; subst f5_))
                   refine hK.out _ _ ⟨(blk_cell BK155.out 0).trans rfl, (blk_cell BK155.out 1).trans rfl, (blk_cell BK155.out 2).trans rfl, (blk_cell BK155.out 3).trans rfl, (blk_cell BK155.out 4).trans rfl, (blk_cell BK183.out 0).trans rfl, (blk_cell BK183.out 1).trans rfl, (blk_cell BK183.out 2).trans rfl, (blk_cell BK183.out 3).trans rfl, (blk_cell BK183.out 4).trans rfl⟩ (fun hHeld => ?_)
                   clear hK K
                   refine norm_ (a' := ?_) ?_ ?_
                   rotate_left
                   ·show Act.put _ (some 79) _ = _
                    simp only [Act.put, HW.LA, HW.LZ, HW.LS, i64_w, i32_w]
                    rfl
                   refine pure_ (i := 39) (N := some 80) (v := ?_) (a' := ?_) #[true, true, true, true, true, true, true, true, true, true, true, true, true, true, true, true, true, true, true, true, true, true, true, true, true, true, true, true, true, true, true, true, true, true, true, true, true, true, true, true, false, false, false, false, false, false, false, false, false, false, false, false, false, false, false, false, false, false, false, false, false, false, false] rfl rfl (any_of HT_.out (by kernel_rfl)) (fun _ _ _ h => h) (Or.inl ⟨by rfl, ?_⟩) ?_ ?_
                   rotate_left
                   ·intro w'
                    go_simp
                    with_reducible rfl
                   rotate_left
                   ·simp only [Act.put, HW.LA, HW.LZ, HW.LS, i64_w, i32_w]
                    rfl
                   refine pure_ (i := 40) (N := some 81) (v := ?_) (a' := ?_) #[true, true, true, true, true, true, true, true, true, true, true, true, true, true, true, true, true, true, true, true, true, true, true, true, true, true, true, true, true, true, true, true, true, true, true, true, true, true, true, true, true, false, false, false, false, false, false, false, false, false, false, false, false, false, false, false, false, false, false, false, false, false, false] rfl rfl (any_of HT_.out (by kernel_rfl)) (fun _ _ _ h => h) (Or.inl ⟨by rfl, ?_⟩) ?_ ?_
                   rotate_left
                   ·intro w'
                    go_simp
                    with_reducible rfl
                   rotate_left
                   ·simp only [Act.put, HW.LA, HW.LZ, HW.LS, i64_w, i32_w]
                    rfl
                   refine pure_ (i := 41) (N := some 82) (v := ?_) (a' := ?_) #[true, true, true, true, true, true, true, true, true, true, true, true, true, true, true, true, true, true, true, true, true, true, true, true, true, true, true, true, true, true, true, true, true, true, true, true, true, true, true, true, true, true, false, false, false, false, false, false, false, false, false, false, false, false, false, false, false, false, false, false, false, false, false] rfl rfl (any_of HT_.out (by kernel_rfl)) (fun _ _ _ h => h) (Or.inl ⟨by rfl, ?_⟩) ?_ ?_
                   rotate_left
                   ·intro w'
                    go_simp
                    with_reducible rfl
                   rotate_left
                   ·simp only [Act.put, HW.LA, HW.LZ, HW.LS, i64_w, i32_w]
                    rfl
                   refine pure_ (i := 42) (N := some 83) (v := ?_) (a' := ?_) #[true, true, true, true, true, true, true, true, true, true, true, true, true, true, true, true, true, true, true, true, true, true, true, true, true, true, true, true, true, true, true, true, true, true, true, true, true, true, true, true, true, true, true, false, false, false, false, false, false, false, false, false, false, false, false, false, false, false, false, false, false, false, false] rfl rfl (any_of HT_.out (by kernel_rfl)) (fun _ _ _ h => h) (Or.inl ⟨by rfl, ?_⟩) ?_ ?_
                   rotate_left
                   ·intro w'
                    go_simp
                    with_reducible rfl
                   rotate_left
                   ·simp only [Act.put, HW.LA, HW.LZ, HW.LS, i64_w, i32_w]
                    rfl
                   refine take_ (i := 43) (N := some 84) (v := ?_) (a' := ?_) #[true, true, true, true, true, true, true, true, true, true, true, true, true, true, true, true, true, true, true, true, true, true, true, true, true, true, true, true, true, true, true, true, true, true, true, true, true, true, true, true, true, true, true, true, false, false, false, false, false, false, false, false, false, false, false, false, false, false, false, false, false, false, false] rfl rfl (take_ofW HT_.out HW_.out (by kernel_rfl)) (fun _ _ _ h => h) (Or.inl ⟨by rfl, ?_⟩) hHeld ?_ ?_
                   rotate_left
                   ·rintro w' ⟨s0, s1, s2, s3, s4, s5, s6, s7, s8, s9⟩
                    go_simp
                    with_reducible rfl
                   rotate_left
                   ·simp only [Act.put, HW.LA, HW.LZ, HW.LS, i64_w, i32_w]
                    rfl
                   refine one_ (i := 44) (N := some 85) #[true, true, true, true, true, true, true, true, true, true, true, true, true, true, true, true, true, true, true, true, true, true, true, true, true, true, true, true, true, true, true, true, true, true, true, true, true, true, true, true, true, true, true, true, true, false, false, false, false, false, false, false, false, false, false, false, false, false, false, false, false, false, false] rfl rfl (one_of HT_.out (by kernel_rfl)) (by decide) (fun K hK => ?_)
                   refine goes_ Try.func12 (by kernel_rfl) rfl #[.agg #[.bool true, .int .i64 262144, .bool true, .int .i64 3, .slice none 0 0]] (by rfl) rfl rfl (by (try simp only [List.map_toArray, List.map_cons, List.map_nil]); first | done | rfl | (simp only [List.length_drop, List.length_take]; rfl)) ?_
                   refine (frame_Right.calls true 262144 true 3 _ _ ([] : List Int) true _ ?side1 ?side2 A26.out).mono ?_
                   (case side1 => exact Kd.C_nil _ _)
                   (case side2 => exact Nat.le_refl _)
                   rintro e w85 ⟨rfl, hb⟩
                   refine ⟨_, rfl, ?_⟩
                   have n0_ := Aside0.mk (Kd.R_below (by (with_reducible repeat (first | apply Kd.R_alloc | apply Kd.R_drewN | apply Kd.R_drew)); exact HO130.out) hb)
                   have n1_ := Aside0.mk (Kd.R_below (by (with_reducible repeat (first | apply Kd.R_alloc | apply Kd.R_drewN | apply Kd.R_drew)); exact HO133.out) hb)
                   have n2_ := Aside0.mk (Kd.R_below (by (with_reducible repeat (first | apply Kd.R_alloc | apply Kd.R_drewN | apply Kd.R_drew)); exact HO142.out) hb)
                   have n3_ := Aside0.mk (Kd.R_below (by (with_reducible repeat (first | apply Kd.R_alloc | apply Kd.R_drewN | apply Kd.R_drew)); exact HO145.out) hb)
                   have n4_ := Aside0.mk (Kd.R_below (by (with_reducible repeat (first | apply Kd.R_alloc | apply Kd.R_drewN | apply Kd.R_drew)); exact HO152.out) hb)
                   have n5_ := Aside0.mk (Kd.R_below (by (with_reducible repeat (first | apply Kd.R_alloc | apply Kd.R_drewN | apply Kd.R_drew)); exact HO166.out) hb)
                   have n6_ := Aside0.mk (Kd.R_below (by (with_reducible repeat (first | apply Kd.R_alloc | apply Kd.R_drewN | apply Kd.R_drew)); exact HO172.out) hb)
                   have n7_ := Aside0.mk (Kd.R_below (by (with_reducible repeat (first | apply Kd.R_alloc | apply Kd.R_drewN | apply Kd.R_drew)); exact HO179.out) hb)
                   have n8_ := Aside0.mk (Kd.R_below (by (with_reducible repeat (first | apply Kd.R_alloc | apply Kd.R_drewN | apply Kd.R_drew)); exact HO190.out) hb)
                   have n9_ := Aside0.mk (Kd.R_below (by (with_reducible repeat (first | apply Kd.R_alloc | apply Kd.R_drewN | apply Kd.R_drew)); exact HO198.out) hb)
                   have n10_ := Aside0.mk (Kd.R_below (by (with_reducible repeat (first | apply Kd.R_alloc | apply Kd.R_drewN | apply Kd.R_drew)); exact HO202.out) hb)
                   have n11_ := Aside0.mk (Kd.R_below (by (with_reducible repeat (first | apply Kd.R_alloc | apply Kd.R_drewN | apply Kd.R_drew)); exact HO205.out) hb)
                   have n12_ := Aside0.mk (blk_below (g := gb155) (o := .cells #[.bool t146, .int .i64 t147, .bool t148, .int .i64 t149, .slice Ao50 t150.length co50] 24 (0, 0)) (by (with_reducible repeat (first | refine blk_drewN ?_ _ | refine blk_drew ?_ | refine blk_alloc ?_ _)); exact BK155.out) hb)
                   have n13_ := Aside0.mk (blk_below (g := gb169) (o := .cells #[.bool t160, .int .i64 t161, .bool t162, .int .i64 t163, .slice Ao57 t164.length co57] 24 (0, 0)) (by (with_reducible repeat (first | refine blk_drewN ?_ _ | refine blk_drew ?_ | refine blk_alloc ?_ _)); exact BK169.out) hb)
                   have n14_ := Aside0.mk (blk_below (g := gb182) (o := .cells #[.bool t173, .int .i64 t174, .bool t175, .int .i64 t176, .slice Ao66 t177.length co66] 24 (0, 0)) (by (with_reducible repeat (first | refine blk_drewN ?_ _ | refine blk_drew ?_ | refine blk_alloc ?_ _)); exact BK182.out) hb)
                   have n15_ := Aside0.mk (blk_below (g := gb183) (o := .cells #[.bool true, .int .i64 262144, .bool true, .int .i64 3, .slice none 0 0] 24 (0, 0)) (by (with_reducible repeat (first | refine blk_drewN ?_ _ | refine blk_drew ?_ | refine blk_alloc ?_ _)); exact BK183.out) hb)
                   have n16_ := Aside0.mk (Kd.C_below (by repeat (first | (with_reducible exact HR187.out) | (with_reducible refine Kd.C_alloc ?_ _) | (with_reducible refine Kd.C_drewN ?_ _) | (with_reducible refine Kd.C_drew ?_) | exact HR187.out)) hb)
                   have n17_ := Aside0.mk (below_step (by repeat (first | (with_reducible first | exact HB.out | apply below_alloc | apply pw_below_drewN | apply below_drew1 | refine below_set ?_ GE155.out | refine below_set ?_ GE169.out | refine below_set ?_ GE182.out | refine below_set ?_ GE183.out) | exact HB.out)) hb)
                   clear HO130
                   clear HO133
                   clear HO142
                   clear HO145
                   clear HO152
                   clear HO166
                   clear HO172
                   clear HO179
                   clear HO190
                   clear HO198
                   clear HO202
                   clear HO205
                   clear BK155
                   clear BK169
                   clear BK182
                   clear BK183
                   clear HR187
                   clear HB
                   have HO130 := n0_
                   have HO133 := n1_
                   have HO142 := n2_
                   have HO145 := n3_
                   have HO152 := n4_
                   have HO166 := n5_
                   have HO172 := n6_
                   have HO179 := n7_
                   have HO190 := n8_
                   have HO198 := n9_
                   have HO202 := n10_
                   have HO205 := n11_
                   have BK155 := n12_
                   have BK169 := n13_
                   have BK182 := n14_
                   have BK183 := n15_
                   have HR187 := n16_
                   have HB := n17_
                   clear n0_ n1_ n2_ n3_ n4_ n5_ n6_ n7_ n8_ n9_ n10_ n11_ n12_ n13_ n14_ n15_ n16_ n17_
                   (try clear hb)
                   (try clear hb2)
                   (try clear hk)
                   (try clear hi)
                   refine hK.out _ _ ⟨(blk_cell BK155.out 0).trans rfl, (blk_cell BK155.out 1).trans rfl, (blk_cell BK155.out 2).trans rfl, (blk_cell BK155.out 3).trans rfl, (blk_cell BK155.out 4).trans rfl, (blk_cell BK183.out 0).trans rfl, (blk_cell BK183.out 1).trans rfl, (blk_cell BK183.out 2).trans rfl, (blk_cell BK183.out 3).trans rfl, (blk_cell BK183.out 4).trans rfl⟩ (fun hHeld => ?_)
                   clear hK K
                   refine norm_ (a' := ?_) ?_ ?_
                   rotate_left
                   ·show Act.put _ (some 85) _ = _
                    simp only [Act.put, HW.LA, HW.LZ, HW.LS, i64_w, i32_w]
                    rfl
                   refine pure_ (i := 45) (N := some 86) (v := ?_) (a' := ?_) #[true, true, true, true, true, true, true, true, true, true, true, true, true, true, true, true, true, true, true, true, true, true, true, true, true, true, true, true, true, true, true, true, true, true, true, true, true, true, true, true, true, true, true, true, true, true, false, false, false, false, false, false, false, false, false, false, false, false, false, false, false, false, false] rfl rfl (any_of HT_.out (by kernel_rfl)) (fun _ _ _ h => h) (Or.inl ⟨by rfl, ?_⟩) ?_ ?_
                   rotate_left
                   ·intro w'
                    go_simp
                    with_reducible rfl
                   rotate_left
                   ·simp only [Act.put, HW.LA, HW.LZ, HW.LS, i64_w, i32_w]
                    rfl
                   refine pure_ (i := 46) (N := some 87) (v := ?_) (a' := ?_) #[true, true, true, true, true, true, true, true, true, true, true, true, true, true, true, true, true, true, true, true, true, true, true, true, true, true, true, true, true, true, true, true, true, true, true, true, true, true, true, true, true, true, true, true, true, true, true, false, false, false, false, false, false, false, false, false, false, false, false, false, false, false, false] rfl rfl (any_of HT_.out (by kernel_rfl)) (fun _ _ _ h => h) (Or.inl ⟨by rfl, ?_⟩) ?_ ?_
                   rotate_left
                   ·intro w'
                    go_simp
                    with_reducible rfl
                   rotate_left
                   ·simp only [Act.put, HW.LA, HW.LZ, HW.LS, i64_w, i32_w]
                    rfl
                   refine pure_ (i := 47) (N := some 88) (v := ?_) (a' := ?_) #[true, true, true, true, true, true, true, true, true, true, true, true, true, true, true, true, true, true, true, true, true, true, true, true, true, true, true, true, true, true, true, true, true, true, true, true, true, true, true, true, true, true, true, true, true, true, true, true, false, false, false, false, false, false, false, false, false, false, false, false, false, false, false] rfl rfl (any_of HT_.out (by kernel_rfl)) (fun _ _ _ h => h) (Or.inl ⟨by rfl, ?_⟩) ?_ ?_
                   rotate_left
                   ·intro w'
                    go_simp
                    with_reducible rfl
                   rotate_left
                   ·simp only [Act.put, HW.LA, HW.LZ, HW.LS, i64_w, i32_w]
                    rfl
                   refine one_ (i := 48) (N := some 89) #[true, true, true, true, true, true, true, true, true, true, true, true, true, true, true, true, true, true, true, true, true, true, true, true, true, true, true, true, true, true, true, true, true, true, true, true, true, true, true, true, true, true, true, true, true, true, true, true, true, false, false, false, false, false, false, false, false, false, false, false, false, false, false] rfl rfl (one_of HT_.out (by kernel_rfl)) (by decide) (fun K hK => ?_)
                   refine goes_ Try.func12 (by kernel_rfl) rfl #[.agg #[.bool false, .int .i64 0, .bool false, .int .i64 1, .slice none 0 0]] (by rfl) rfl rfl (by (try simp only [List.map_toArray, List.map_cons, List.map_nil]); first | done | rfl | (simp only [List.length_drop, List.length_take]; rfl)) ?_
                   refine (frame_Right.calls false 0 false 1 _ _ ([] : List Int) false _ ?side1 ?side2 A28.out).mono ?_
                   (case side1 => exact Kd.C_nil _ _)
                   (case side2 => exact Nat.le_refl _)
                   rintro e w86 ⟨rfl, hb⟩
                   refine ⟨_, rfl, ?_⟩
                   have n0_ := Aside0.mk (Kd.R_below (by (with_reducible repeat (first | apply Kd.R_alloc | apply Kd.R_drewN | apply Kd.R_drew)); exact HO130.out) hb)
                   have n1_ := Aside0.mk (Kd.R_below (by (with_reducible repeat (first | apply Kd.R_alloc | apply Kd.R_drewN | apply Kd.R_drew)); exact HO133.out) hb)
                   have n2_ := Aside0.mk (Kd.R_below (by (with_reducible repeat (first | apply Kd.R_alloc | apply Kd.R_drewN | apply Kd.R_drew)); exact HO142.out) hb)
                   have n3_ := Aside0.mk (Kd.R_below (by (with_reducible repeat (first | apply Kd.R_alloc | apply Kd.R_drewN | apply Kd.R_drew)); exact HO145.out) hb)
                   have n4_ := Aside0.mk (Kd.R_below (by (with_reducible repeat (first | apply Kd.R_alloc | apply Kd.R_drewN | apply Kd.R_drew)); exact HO152.out) hb)
                   have n5_ := Aside0.mk (Kd.R_below (by (with_reducible repeat (first | apply Kd.R_alloc | apply Kd.R_drewN | apply Kd.R_drew)); exact HO166.out) hb)
                   have n6_ := Aside0.mk (Kd.R_below (by (with_reducible repeat (first | apply Kd.R_alloc | apply Kd.R_drewN | apply Kd.R_drew)); exact HO172.out) hb)
                   have n7_ := Aside0.mk (Kd.R_below (by (with_reducible repeat (first | apply Kd.R_alloc | apply Kd.R_drewN | apply Kd.R_drew)); exact HO179.out) hb)
                   have n8_ := Aside0.mk (Kd.R_below (by (with_reducible repeat (first | apply Kd.R_alloc | apply Kd.R_drewN | apply Kd.R_drew)); exact HO190.out) hb)
                   have n9_ := Aside0.mk (Kd.R_below (by (with_reducible repeat (first | apply Kd.R_alloc | apply Kd.R_drewN | apply Kd.R_drew)); exact HO198.out) hb)
                   have n10_ := Aside0.mk (Kd.R_below (by (with_reducible repeat (first | apply Kd.R_alloc | apply Kd.R_drewN | apply Kd.R_drew)); exact HO202.out) hb)
                   have n11_ := Aside0.mk (Kd.R_below (by (with_reducible repeat (first | apply Kd.R_alloc | apply Kd.R_drewN | apply Kd.R_drew)); exact HO205.out) hb)
                   have n12_ := Aside0.mk (blk_below (g := gb155) (o := .cells #[.bool t146, .int .i64 t147, .bool t148, .int .i64 t149, .slice Ao50 t150.length co50] 24 (0, 0)) (by (with_reducible repeat (first | refine blk_drewN ?_ _ | refine blk_drew ?_ | refine blk_alloc ?_ _)); exact BK155.out) hb)
                   have n13_ := Aside0.mk (blk_below (g := gb169) (o := .cells #[.bool t160, .int .i64 t161, .bool t162, .int .i64 t163, .slice Ao57 t164.length co57] 24 (0, 0)) (by (with_reducible repeat (first | refine blk_drewN ?_ _ | refine blk_drew ?_ | refine blk_alloc ?_ _)); exact BK169.out) hb)
                   have n14_ := Aside0.mk (blk_below (g := gb182) (o := .cells #[.bool t173, .int .i64 t174, .bool t175, .int .i64 t176, .slice Ao66 t177.length co66] 24 (0, 0)) (by (with_reducible repeat (first | refine blk_drewN ?_ _ | refine blk_drew ?_ | refine blk_alloc ?_ _)); exact BK182.out) hb)
                   have n15_ := Aside0.mk (blk_below (g := gb183) (o := .cells #[.bool true, .int .i64 262144, .bool true, .int .i64 3, .slice none 0 0] 24 (0, 0)) (by (with_reducible repeat (first | refine blk_drewN ?_ _ | refine blk_drew ?_ | refine blk_alloc ?_ _)); exact BK183.out) hb)
                   have n16_ := Aside0.mk (Kd.C_below (by repeat (first | (with_reducible exact HR187.out) | (with_reducible refine Kd.C_alloc ?_ _) | (with_reducible refine Kd.C_drewN ?_ _) | (with_reducible refine Kd.C_drew ?_) | exact HR187.out)) hb)
                   have n17_ := Aside0.mk (below_step (by repeat (first | (with_reducible first | exact HB.out | apply below_alloc | apply pw_below_drewN | apply below_drew1 | refine below_set ?_ GE155.out | refine below_set ?_ GE169.out | refine below_set ?_ GE182.out | refine below_set ?_ GE183.out) | exact HB.out)) hb)
                   clear HO130
                   clear HO133
                   clear HO142
                   clear HO145
                   clear HO152
                   clear HO166
                   clear HO172
                   clear HO179
                   clear HO190
                   clear HO198
                   clear HO202
                   clear HO205
                   clear BK155
                   clear BK169
                   clear BK182
                   clear BK183
                   clear HR187
                   clear HB
                   have HO130 := n0_
                   have HO133 := n1_
                   have HO142 := n2_
                   have HO145 := n3_
                   have HO152 := n4_
                   have HO166 := n5_
                   have HO172 := n6_
                   have HO179 := n7_
                   have HO190 := n8_
                   have HO198 := n9_
                   have HO202 := n10_
                   have HO205 := n11_
                   have BK155 := n12_
                   have BK169 := n13_
                   have BK182 := n14_
                   have BK183 := n15_
                   have HR187 := n16_
                   have HB := n17_
                   clear n0_ n1_ n2_ n3_ n4_ n5_ n6_ n7_ n8_ n9_ n10_ n11_ n12_ n13_ n14_ n15_ n16_ n17_
                   (try clear hb)
                   (try clear hb2)
                   (try clear hk)
                   (try clear hi)
                   refine hK.out _ _ ⟨(blk_cell BK155.out 0).trans rfl, (blk_cell BK155.out 1).trans rfl, (blk_cell BK155.out 2).trans rfl, (blk_cell BK155.out 3).trans rfl, (blk_cell BK155.out 4).trans rfl, (blk_cell BK183.out 0).trans rfl, (blk_cell BK183.out 1).trans rfl, (blk_cell BK183.out 2).trans rfl, (blk_cell BK183.out 3).trans rfl, (blk_cell BK183.out 4).trans rfl⟩ (fun hHeld => ?_)
                   clear hK K
                   refine norm_ (a' := ?_) ?_ ?_
                   rotate_left
                   ·show Act.put _ (some 89) _ = _
                    simp only [Act.put, HW.LA, HW.LZ, HW.LS, i64_w, i32_w]
                    rfl
                   refine pure_ (i := 49) (N := some 90) (v := ?_) (a' := ?_) #[true, true, true, true, true, true, true, true, true, true, true, true, true, true, true, true, true, true, true, true, true, true, true, true, true, true, true, true, true, true, true, true, true, true, true, true, true, true, true, true, true, true, true, true, true, true, true, true, true, true, false, false, false, false, false, false, false, false, false, false, false, false, false] rfl rfl (any_of HT_.out (by kernel_rfl)) (fun _ _ _ h => h) (Or.inl ⟨by rfl, ?_⟩) ?_ ?_
                   rotate_left
                   ·intro w'
                    go_simp
                    with_reducible rfl
                   rotate_left
                   ·simp only [Act.put, HW.LA, HW.LZ, HW.LS, i64_w, i32_w]
                    rfl
                   refine pure_ (i := 50) (N := some 91) (v := ?_) (a' := ?_) #[true, true, true, true, true, true, true, true, true, true, true, true, true, true, true, true, true, true, true, true, true, true, true, true, true, true, true, true, true, true, true, true, true, true, true, true, true, true, true, true, true, true, true, true, true, true, true, true, true, true, true, false, false, false, false, false, false, false, false, false, false, false, false] rfl rfl (any_of HT_.out (by kernel_rfl)) (fun _ _ _ h => h) (Or.inl ⟨by rfl, ?_⟩) ?_ ?_
                   rotate_left
                   ·intro w'
                    go_simp
                    with_reducible rfl
                   rotate_left
                   ·simp only [Act.put, HW.LA, HW.LZ, HW.LS, i64_w, i32_w]
                    rfl
                   refine pure_ (i := 51) (N := some 92) (v := ?_) (a' := ?_) #[true, true, true, true, true, true, true, true, true, true, true, true, true, true, true, true, true, true, true, true, true, true, true, true, true, true, true, true, true, true, true, true, true, true, true, true, true, true, true, true, true, true, true, true, true, true, true, true, true, true, true, true, false, false, false, false, false, false, false, false, false, false, false] rfl rfl (any_of HT_.out (by kernel_rfl)) (fun _ _ _ h => h) (Or.inl ⟨by rfl, ?_⟩) ?_ ?_
                   rotate_left
                   ·intro w'
                    go_simp
                    with_reducible rfl
                   rotate_left
                   ·simp only [Act.put, HW.LA, HW.LZ, HW.LS, i64_w, i32_w]
                    rfl
                   refine take_ (i := 52) (N := some 93) (v := ?_) (a' := ?_) #[true, true, true, true, true, true, true, true, true, true, true, true, true, true, true, true, true, true, true, true, true, true, true, true, true, true, true, true, true, true, true, true, true, true, true, true, true, true, true, true, true, true, true, true, true, true, true, true, true, true, true, true, true, false, false, false, false, false, false, false, false, false, false] rfl rfl (take_ofW HT_.out HW_.out (by kernel_rfl)) (fun _ _ _ h => h) (Or.inl ⟨by rfl, ?_⟩) hHeld ?_ ?_
                   rotate_left
                   ·rintro w' ⟨s0, s1, s2, s3, s4, s5, s6, s7, s8, s9⟩
                    go_simp
                    with_reducible rfl
                   rotate_left
                   ·simp only [Act.put, HW.LA, HW.LZ, HW.LS, i64_w, i32_w]
                    rfl
                   refine take_ (i := 53) (N := some 94) (v := ?_) (a' := ?_) #[true, true, true, true, true, true, true, true, true, true, true, true, true, true, true, true, true, true, true, true, true, true, true, true, true, true, true, true, true, true, true, true, true, true, true, true, true, true, true, true, true, true, true, true, true, true, true, true, true, true, true, true, true, true, false, false, false, false, false, false, false, false, false] rfl rfl (take_ofW HT_.out HW_.out (by kernel_rfl)) (fun _ _ _ h => h) (Or.inl ⟨by rfl, ?_⟩) hHeld ?_ ?_
                   rotate_left
                   ·rintro w' ⟨s0, s1, s2, s3, s4, s5, s6, s7, s8, s9⟩
                    go_simp
                    with_reducible rfl
                   rotate_left
                   ·simp only [Act.put, HW.LA, HW.LZ, HW.LS, i64_w, i32_w]
                    rfl
                   refine one_ (i := 54) (N := some 95) #[true, true, true, true, true, true, true, true, true, true, true, true, true, true, true, true, true, true, true, true, true, true, true, true, true, true, true, true, true, true, true, true, true, true, true, true, true, true, true, true, true, true, true, true, true, true, true, true, true, true, true, true, true, true, true, false, false, false, false, false, false, false, false] rfl rfl (one_of HT_.out (by kernel_rfl)) (by decide) (fun K hK => ?_)
                   refine goes_ Try.func14 (by kernel_rfl) rfl #[.agg #[.bool true, .int .i64 262144, .bool true, .int .i64 3, .slice none 0 0], .agg #[.bool true, .int .i64 262144, .bool true, .int .i64 3, .slice none 0 0]] (by rfl) rfl rfl (by (try simp only [List.map_toArray, List.map_cons, List.map_nil]); first | done | rfl | (simp only [List.length_drop, List.length_take]; rfl)) ?_
                   refine (frame_Same.calls true 262144 true 3 _ _ ([] : List Int) true 262144 true 3 _ _ ([] : List Int) true _ ?side1 ?side2 ?side3 ?side4 A30.out).mono ?_
                   (case side1 => exact Kd.C_nil _ _)
                   (case side2 => exact Nat.le_refl _)
                   (case side3 => exact Kd.C_nil _ _)
                   (case side4 => exact Nat.le_refl _)
                   rintro e w87 ⟨rfl, hb⟩
                   refine ⟨_, rfl, ?_⟩
                   have n0_ := Aside0.mk (Kd.R_below (by (with_reducible repeat (first | apply Kd.R_alloc | apply Kd.R_drewN | apply Kd.R_drew)); exact HO130.out) hb)
                   have n1_ := Aside0.mk (Kd.R_below (by (with_reducible repeat (first | apply Kd.R_alloc | apply Kd.R_drewN | apply Kd.R_drew)); exact HO133.out) hb)
                   have n2_ := Aside0.mk (Kd.R_below (by (with_reducible repeat (first | apply Kd.R_alloc | apply Kd.R_drewN | apply Kd.R_drew)); exact HO142.out) hb)
                   have n3_ := Aside0.mk (Kd.R_below (by (with_reducible repeat (first | apply Kd.R_alloc | apply Kd.R_drewN | apply Kd.R_drew)); exact HO145.out) hb)
                   have n4_ := Aside0.mk (Kd.R_below (by (with_reducible repeat (first | apply Kd.R_alloc | apply Kd.R_drewN | apply Kd.R_drew)); exact HO152.out) hb)
                   have n5_ := Aside0.mk (Kd.R_below (by (with_reducible repeat (first | apply Kd.R_alloc | apply Kd.R_drewN | apply Kd.R_drew)); exact HO166.out) hb)
                   have n6_ := Aside0.mk (Kd.R_below (by (with_reducible repeat (first | apply Kd.R_alloc | apply Kd.R_drewN | apply Kd.R_drew)); exact HO172.out) hb)
                   have n7_ := Aside0.mk (Kd.R_below (by (with_reducible repeat (first | apply Kd.R_alloc | apply Kd.R_drewN | apply Kd.R_drew)); exact HO179.out) hb)
                   have n8_ := Aside0.mk (Kd.R_below (by (with_reducible repeat (first | apply Kd.R_alloc | apply Kd.R_drewN | apply Kd.R_drew)); exact HO190.out) hb)
                   have n9_ := Aside0.mk (Kd.R_below (by (with_reducible repeat (first | apply Kd.R_alloc | apply Kd.R_drewN | apply Kd.R_drew)); exact HO198.out) hb)
                   have n10_ := Aside0.mk (Kd.R_below (by (with_reducible repeat (first | apply Kd.R_alloc | apply Kd.R_drewN | apply Kd.R_drew)); exact HO202.out) hb)
                   have n11_ := Aside0.mk (Kd.R_below (by (with_reducible repeat (first | apply Kd.R_alloc | apply Kd.R_drewN | apply Kd.R_drew)); exact HO205.out) hb)
                   have n12_ := Aside0.mk (blk_below (g := gb155) (o := .cells #[.bool t146, .int .i64 t147, .bool t148, .int .i64 t149, .slice Ao50 t150.length co50] 24 (0, 0)) (by (with_reducible repeat (first | refine blk_drewN ?_ _ | refine blk_drew ?_ | refine blk_alloc ?_ _)); exact BK155.out) hb)
                   have n13_ := Aside0.mk (blk_below (g := gb169) (o := .cells #[.bool t160, .int .i64 t161, .bool t162, .int .i64 t163, .slice Ao57 t164.length co57] 24 (0, 0)) (by (with_reducible repeat (first | refine blk_drewN ?_ _ | refine blk_drew ?_ | refine blk_alloc ?_ _)); exact BK169.out) hb)
                   have n14_ := Aside0.mk (blk_below (g := gb182) (o := .cells #[.bool t173, .int .i64 t174, .bool t175, .int .i64 t176, .slice Ao66 t177.length co66] 24 (0, 0)) (by (with_reducible repeat (first | refine blk_drewN ?_ _ | refine blk_drew ?_ | refine blk_alloc ?_ _)); exact BK182.out) hb)
                   have n15_ := Aside0.mk (blk_below (g := gb183) (o := .cells #[.bool true, .int .i64 262144, .bool true, .int .i64 3, .slice none 0 0] 24 (0, 0)) (by (with_reducible repeat (first | refine blk_drewN ?_ _ | refine blk_drew ?_ | refine blk_alloc ?_ _)); exact BK183.out) hb)
                   have n16_ := Aside0.mk (Kd.C_below (by repeat (first | (with_reducible exact HR187.out) | (with_reducible refine Kd.C_alloc ?_ _) | (with_reducible refine Kd.C_drewN ?_ _) | (with_reducible refine Kd.C_drew ?_) | exact HR187.out)) hb)
                   have n17_ := Aside0.mk (below_step (by repeat (first | (with_reducible first | exact HB.out | apply below_alloc | apply pw_below_drewN | apply below_drew1 | refine below_set ?_ GE155.out | refine below_set ?_ GE169.out | refine below_set ?_ GE182.out | refine below_set ?_ GE183.out) | exact HB.out)) hb)
                   clear HO130
                   clear HO133
                   clear HO142
                   clear HO145
                   clear HO152
                   clear HO166
                   clear HO172
                   clear HO179
                   clear HO190
                   clear HO198
                   clear HO202
                   clear HO205
                   clear BK155
                   clear BK169
                   clear BK182
                   clear BK183
                   clear HR187
                   clear HB
                   have HO130 := n0_
                   have HO133 := n1_
                   have HO142 := n2_
                   have HO145 := n3_
                   have HO152 := n4_
                   have HO166 := n5_
                   have HO172 := n6_
                   have HO179 := n7_
                   have HO190 := n8_
                   have HO198 := n9_
                   have HO202 := n10_
                   have HO205 := n11_
                   have BK155 := n12_
                   have BK169 := n13_
                   have BK182 := n14_
                   have BK183 := n15_
                   have HR187 := n16_
                   have HB := n17_
                   clear n0_ n1_ n2_ n3_ n4_ n5_ n6_ n7_ n8_ n9_ n10_ n11_ n12_ n13_ n14_ n15_ n16_ n17_
                   (try clear hb)
                   (try clear hb2)
                   (try clear hk)
                   (try clear hi)
                   refine hK.out _ _ ⟨(blk_cell BK155.out 0).trans rfl, (blk_cell BK155.out 1).trans rfl, (blk_cell BK155.out 2).trans rfl, (blk_cell BK155.out 3).trans rfl, (blk_cell BK155.out 4).trans rfl, (blk_cell BK183.out 0).trans rfl, (blk_cell BK183.out 1).trans rfl, (blk_cell BK183.out 2).trans rfl, (blk_cell BK183.out 3).trans rfl, (blk_cell BK183.out 4).trans rfl⟩ (fun hHeld => ?_)
                   clear hK K
                   refine norm_ (a' := ?_) ?_ ?_
                   rotate_left
                   ·show Act.put _ (some 95) _ = _
                    simp only [Act.put, HW.LA, HW.LZ, HW.LS, i64_w, i32_w]
                    rfl
                   refine pure_ (i := 55) (N := some 96) (v := ?_) (a' := ?_) #[true, true, true, true, true, true, true, true, true, true, true, true, true, true, true, true, true, true, true, true, true, true, true, true, true, true, true, true, true, true, true, true, true, true, true, true, true, true, true, true, true, true, true, true, true, true, true, true, true, true, true, true, true, true, true, true, false, false, false, false, false, false, false] rfl rfl (any_of HT_.out (by kernel_rfl)) (fun _ _ _ h => h) (Or.inl ⟨by rfl, ?_⟩) ?_ ?_
                   rotate_left
                   ·intro w'
                    go_simp
                    with_reducible rfl
                   rotate_left
                   ·simp only [Act.put, HW.LA, HW.LZ, HW.LS, i64_w, i32_w]
                    rfl
                   refine pure_ (i := 56) (N := some 97) (v := ?_) (a' := ?_) #[true, true, true, true, true, true, true, true, true, true, true, true, true, true, true, true, true, true, true, true, true, true, true, true, true, true, true, true, true, true, true, true, true, true, true, true, true, true, true, true, true, true, true, true, true, true, true, true, true, true, true, true, true, true, true, true, true, false, false, false, false, false, false] rfl rfl (any_of HT_.out (by kernel_rfl)) (fun _ _ _ h => h) (Or.inl ⟨by rfl, ?_⟩) ?_ ?_
                   rotate_left
                   ·intro w'
                    go_simp
                    with_reducible rfl
                   rotate_left
                   ·simp only [Act.put, HW.LA, HW.LZ, HW.LS, i64_w, i32_w]
                    rfl
                   refine take_ (i := 57) (N := some 98) (v := ?_) (a' := ?_) #[true, true, true, true, true, true, true, true, true, true, true, true, true, true, true, true, true, true, true, true, true, true, true, true, true, true, true, true, true, true, true, true, true, true, true, true, true, true, true, true, true, true, true, true, true, true, true, true, true, true, true, true, true, true, true, true, true, true, false, false, false, false, false] rfl rfl (take_ofW HT_.out HW_.out (by kernel_rfl)) (fun _ _ _ h => h) (Or.inl ⟨by rfl, ?_⟩) hHeld ?_ ?_
                   rotate_left
                   ·rintro w' ⟨s0, s1, s2, s3, s4, s5, s6, s7, s8, s9⟩
                    go_simp
                    with_reducible rfl
                   rotate_left
                   ·simp only [Act.put, HW.LA, HW.LZ, HW.LS, i64_w, i32_w]
                    rfl
                   refine one_ (i := 58) (N := some 99) #[true, true, true, true, true, true, true, true, true, true, true, true, true, true, true, true, true, true, true, true, true, true, true, true, true, true, true, true, true, true, true, true, true, true, true, true, true, true, true, true, true, true, true, true, true, true, true, true, true, true, true, true, true, true, true, true, true, true, true, false, false, false, false] rfl rfl (one_of HT_.out (by kernel_rfl)) (by decide) (fun K hK => ?_)
                   refine goes_ Try.func26 (by kernel_rfl) rfl #[] (by rfl) rfl rfl (by (try simp only [List.map_toArray, List.map_cons, List.map_nil]); first | done | rfl | (simp only [List.length_drop, List.length_take]; rfl)) ?_
                   with_reducible refine (phaetonlaw04_One.calls  t209 t210 t211 t212 t213 _ A32.out).mono ?_
                   rintro e w88 ⟨v214, rfl, ho0, hb⟩
                   refine ⟨_, rfl, ?_⟩
                   have n0_ := Aside0.mk (Kd.R_elder' (by (with_reducible repeat (first | apply Kd.R_alloc | apply Kd.R_drewN | apply Kd.R_drew)); exact HO130.out) (Kd.R_base ho0) hb)
                   have n1_ := Aside0.mk (Kd.R_below (by (with_reducible repeat (first | apply Kd.R_alloc | apply Kd.R_drewN | apply Kd.R_drew)); exact HO133.out) hb)
                   have n2_ := Aside0.mk (Kd.R_below (by (with_reducible repeat (first | apply Kd.R_alloc | apply Kd.R_drewN | apply Kd.R_drew)); exact HO142.out) hb)
                   have n3_ := Aside0.mk (Kd.R_below (by (with_reducible repeat (first | apply Kd.R_alloc | apply Kd.R_drewN | apply Kd.R_drew)); exact HO145.out) hb)
                   have n4_ := Aside0.mk (Kd.R_elder' (by (with_reducible repeat (first | apply Kd.R_alloc | apply Kd.R_drewN | apply Kd.R_drew)); exact HO152.out) (Kd.R_base ho0) hb)
                   have n5_ := Aside0.mk (Kd.R_elder' (by (with_reducible repeat (first | apply Kd.R_alloc | apply Kd.R_drewN | apply Kd.R_drew)); exact HO166.out) (Kd.R_base ho0) hb)
                   have n6_ := Aside0.mk (Kd.R_below (by (with_reducible repeat (first | apply Kd.R_alloc | apply Kd.R_drewN | apply Kd.R_drew)); exact HO172.out) hb)
                   have n7_ := Aside0.mk (Kd.R_elder' (by (with_reducible repeat (first | apply Kd.R_alloc | apply Kd.R_drewN | apply Kd.R_drew)); exact HO179.out) (Kd.R_base ho0) hb)
                   have n8_ := Aside0.mk (Kd.R_below (by (with_reducible repeat (first | apply Kd.R_alloc | apply Kd.R_drewN | apply Kd.R_drew)); exact HO190.out) hb)
                   have n9_ := Aside0.mk (Kd.R_elder' (by (with_reducible repeat (first | apply Kd.R_alloc | apply Kd.R_drewN | apply Kd.R_drew)); exact HO198.out) (Kd.R_base ho0) hb)
                   have n10_ := Aside0.mk (Kd.R_below (by (with_reducible repeat (first | apply Kd.R_alloc | apply Kd.R_drewN | apply Kd.R_drew)); exact HO202.out) hb)
                   have n11_ := Aside0.mk (Kd.R_below (by (with_reducible repeat (first | apply Kd.R_alloc | apply Kd.R_drewN | apply Kd.R_drew)); exact HO205.out) hb)
                   have n12_ := Aside0.mk (Kd.R_lower (Kd.R_new' (Kd.R_new' (Kd.R_new' (Kd.R_new' (Kd.R_new' ho0 (Kd.R_lt (by (with_reducible repeat (first | apply Kd.R_alloc | apply Kd.R_drewN | apply Kd.R_drew)); exact HO130.out))) (Kd.R_lt (by (with_reducible repeat (first | apply Kd.R_alloc | apply Kd.R_drewN | apply Kd.R_drew)); exact HO152.out))) (Kd.R_lt (by (with_reducible repeat (first | apply Kd.R_alloc | apply Kd.R_drewN | apply Kd.R_drew)); exact HO166.out))) (Kd.R_lt (by (with_reducible repeat (first | apply Kd.R_alloc | apply Kd.R_drewN | apply Kd.R_drew)); exact HO179.out))) (Kd.R_lt (by (with_reducible repeat (first | apply Kd.R_alloc | apply Kd.R_drewN | apply Kd.R_drew)); exact HO198.out))) (below_size (by repeat (first | (with_reducible first | exact HB.out | apply below_alloc | apply pw_below_drewN | apply below_drew1 | refine below_set ?_ GE155.out | refine below_set ?_ GE169.out | refine below_set ?_ GE182.out | refine below_set ?_ GE183.out) | exact HB.out))))
                   have n13_ := Aside0.mk (blk_below (g := gb155) (o := .cells #[.bool t146, .int .i64 t147, .bool t148, .int .i64 t149, .slice Ao50 t150.length co50] 24 (0, 0)) (by (with_reducible repeat (first | refine blk_drewN ?_ _ | refine blk_drew ?_ | refine blk_alloc ?_ _)); exact BK155.out) hb)
                   have n14_ := Aside0.mk (blk_below (g := gb169) (o := .cells #[.bool t160, .int .i64 t161, .bool t162, .int .i64 t163, .slice Ao57 t164.length co57] 24 (0, 0)) (by (with_reducible repeat (first | refine blk_drewN ?_ _ | refine blk_drew ?_ | refine blk_alloc ?_ _)); exact BK169.out) hb)
                   have n15_ := Aside0.mk (blk_below (g := gb182) (o := .cells #[.bool t173, .int .i64 t174, .bool t175, .int .i64 t176, .slice Ao66 t177.length co66] 24 (0, 0)) (by (with_reducible repeat (first | refine blk_drewN ?_ _ | refine blk_drew ?_ | refine blk_alloc ?_ _)); exact BK182.out) hb)
                   have n16_ := Aside0.mk (blk_below (g := gb183) (o := .cells #[.bool true, .int .i64 262144, .bool true, .int .i64 3, .slice none 0 0] 24 (0, 0)) (by (with_reducible repeat (first | refine blk_drewN ?_ _ | refine blk_drew ?_ | refine blk_alloc ?_ _)); exact BK183.out) hb)
                   have n17_ := Aside0.mk (Kd.C_below (by repeat (first | (with_reducible exact HR187.out) | (with_reducible refine Kd.C_alloc ?_ _) | (with_reducible refine Kd.C_drewN ?_ _) | (with_reducible refine Kd.C_drew ?_) | exact HR187.out)) hb)
                   have n18_ := Aside0.mk (below_step (by repeat (first | (with_reducible first | exact HB.out | apply below_alloc | apply pw_below_drewN | apply below_drew1 | refine below_set ?_ GE155.out | refine below_set ?_ GE169.out | refine below_set ?_ GE182.out | refine below_set ?_ GE183.out) | exact HB.out)) hb)
                   clear HO130
                   clear HO133
                   clear HO142
                   clear HO145
                   clear HO152
                   clear HO166
                   clear HO172
                   clear HO179
                   clear HO190
                   clear HO198
                   clear HO202
                   clear HO205
                   clear BK155
                   clear BK169
                   clear BK182
                   clear BK183
                   clear HR187
                   clear HB
                   have HO130 := n0_
                   have HO133 := n1_
                   have HO142 := n2_
                   have HO145 := n3_
                   have HO152 := n4_
                   have HO166 := n5_
                   have HO172 := n6_
                   have HO179 := n7_
                   have HO190 := n8_
                   have HO198 := n9_
                   have HO202 := n10_
                   have HO205 := n11_
                   have HO215 := n12_
                   have BK155 := n13_
                   have BK169 := n14_
                   have BK182 := n15_
                   have BK183 := n16_
                   have HR187 := n17_
                   have HB := n18_
                   clear n0_ n1_ n2_ n3_ n4_ n5_ n6_ n7_ n8_ n9_ n10_ n11_ n12_ n13_ n14_ n15_ n16_ n17_ n18_
                   (try clear hb)
                   (try clear hb2)
                   (try clear hk)
                   (try clear hi)
                   (try clear ho0)
                   obtain ⟨Ao89, co89, eo89⟩ := Kd.R_slice HO215.out
                   (first | subst eo89 | (injection eo89 with f1_ f2_ f3_; have f4_ := f1_.symm; have f5_ := f3_.symm; clear f1_ f2_ f3_; subst f4_; subst f5_))
                   refine hK.out _ _ ⟨(blk_cell BK155.out 0).trans rfl, (blk_cell BK155.out 1).trans rfl, (blk_cell BK155.out 2).trans rfl, (blk_cell BK155.out 3).trans rfl, (blk_cell BK155.out 4).trans rfl, (blk_cell BK183.out 0).trans rfl, (blk_cell BK183.out 1).trans rfl, (blk_cell BK183.out 2).trans rfl, (blk_cell BK183.out 3).trans rfl, (blk_cell BK183.out 4).trans rfl⟩ (fun hHeld => ?_)
                   clear hK K
                   refine norm_ (a' := ?_) ?_ ?_
                   rotate_left
                   ·show Act.put _ (some 99) _ = _
                    simp only [Act.put, HW.LA, HW.LZ, HW.LS, i64_w, i32_w]
                    rfl
                   refine one_ (i := 59) (N := some 100) #[true, true, true, true, true, true, true, true, true, true, true, true, true, true, true, true, true, true, true, true, true, true, true, true, true, true, true, true, true, true, true, true, true, true, true, true, true, true, true, true, true, true, true, true, true, true, true, true, true, true, true, true, true, true, true, true, true, true, true, true, false, false, false] rfl rfl (one_of HT_.out (by kernel_rfl)) (by decide) (fun K hK => ?_)
                   refine goes_ Try.func14 (by kernel_rfl) rfl #[.agg #[.bool true, .int .i64 262144, .bool true, .int .i64 3, .slice none 0 0], .agg #[.bool t209, .int .i64 t210, .bool t211, .int .i64 t212, .slice Ao89 t213.length co89]] (by rfl) rfl rfl (by (try simp only [List.map_toArray, List.map_cons, List.map_nil]); first | done | rfl | (simp only [List.length_drop, List.length_take]; rfl)) ?_
                   refine (frame_Same.calls true 262144 true 3 _ _ ([] : List Int) t209 t210 t211 t212 _ _ t213 false _ ?side1 ?side2 ?side3 ?side4 A33.out).mono ?_
                   (case side1 => exact Kd.C_nil _ _)
                   (case side2 => exact Nat.le_refl _)
                   (case side3 => repeat (first | exact (Kd.R_reads' HO215.out).2.2 | (with_reducible refine Kd.C_alloc ?_ _) | (with_reducible refine Kd.C_drewN ?_ _) | (with_reducible refine Kd.C_drew ?_)))
                   (case side4 => exact (Kd.R_reads' HO215.out).2.1)
                   rintro e w90 ⟨rfl, hb⟩
                   refine ⟨_, rfl, ?_⟩
                   have n0_ := Aside0.mk (Kd.R_below (by (with_reducible repeat (first | apply Kd.R_alloc | apply Kd.R_drewN | apply Kd.R_drew)); exact HO130.out) hb)
                   have n1_ := Aside0.mk (Kd.R_below (by (with_reducible repeat (first | apply Kd.R_alloc | apply Kd.R_drewN | apply Kd.R_drew)); exact HO133.out) hb)
                   have n2_ := Aside0.mk (Kd.R_below (by (with_reducible repeat (first | apply Kd.R_alloc | apply Kd.R_drewN | apply Kd.R_drew)); exact HO142.out) hb)
                   have n3_ := Aside0.mk (Kd.R_below (by (with_reducible repeat (first | apply Kd.R_alloc | apply Kd.R_drewN | apply Kd.R_drew)); exact HO145.out) hb)
                   have n4_ := Aside0.mk (Kd.R_below (by (with_reducible repeat (first | apply Kd.R_alloc | apply Kd.R_drewN | apply Kd.R_drew)); exact HO152.out) hb)
                   have n5_ := Aside0.mk (Kd.R_below (by (with_reducible repeat (first | apply Kd.R_alloc | apply Kd.R_drewN | apply Kd.R_drew)); exact HO166.out) hb)
                   have n6_ := Aside0.mk (Kd.R_below (by (with_reducible repeat (first | apply Kd.R_alloc | apply Kd.R_drewN | apply Kd.R_drew)); exact HO172.out) hb)
                   have n7_ := Aside0.mk (Kd.R_below (by (with_reducible repeat (first | apply Kd.R_alloc | apply Kd.R_drewN | apply Kd.R_drew)); exact HO179.out) hb)
                   have n8_ := Aside0.mk (Kd.R_below (by (with_reducible repeat (first | apply Kd.R_alloc | apply Kd.R_drewN | apply Kd.R_drew)); exact HO190.out) hb)
                   have n9_ := Aside0.mk (Kd.R_below (by (with_reducible repeat (first | apply Kd.R_alloc | apply Kd.R_drewN | apply Kd.R_drew)); exact HO198.out) hb)
                   have n10_ := Aside0.mk (Kd.R_below (by (with_reducible repeat (first | apply Kd.R_alloc | apply Kd.R_drewN | apply Kd.R_drew)); exact HO202.out) hb)
                   have n11_ := Aside0.mk (Kd.R_below (by (with_reducible repeat (first | apply Kd.R_alloc | apply Kd.R_drewN | apply Kd.R_drew)); exact HO205.out) hb)
                   have n12_ := Aside0.mk (Kd.R_below (by (with_reducible repeat (first | apply Kd.R_alloc | apply Kd.R_drewN | apply Kd.R_drew)); exact HO215.out) hb)
                   have n13_ := Aside0.mk (blk_below (g := gb155) (o := .cells #[.bool t146, .int .i64 t147, .bool t148, .int .i64 t149, .slice Ao50 t150.length co50] 24 (0, 0)) (by (with_reducible repeat (first | refine blk_drewN ?_ _ | refine blk_drew ?_ | refine blk_alloc ?_ _)); exact BK155.out) hb)
                   have n14_ := Aside0.mk (blk_below (g := gb169) (o := .cells #[.bool t160, .int .i64 t161, .bool t162, .int .i64 t163, .slice Ao57 t164.length co57] 24 (0, 0)) (by (with_reducible repeat (first | refine blk_drewN ?_ _ | refine blk_drew ?_ | refine blk_alloc ?_ _)); exact BK169.out) hb)
                   have n15_ := Aside0.mk (blk_below (g := gb182) (o := .cells #[.bool t173, .int .i64 t174, .bool t175, .int .i64 t176, .slice Ao66 t177.length co66] 24 (0, 0)) (by (with_reducible repeat (first | refine blk_drewN ?_ _ | refine blk_drew ?_ | refine blk_alloc ?_ _)); exact BK182.out) hb)
                   have n16_ := Aside0.mk (blk_below (g := gb183) (o := .cells #[.bool true, .int .i64 262144, .bool true, .int .i64 3, .slice none 0 0] 24 (0, 0)) (by (with_reducible repeat (first | refine blk_drewN ?_ _ | refine blk_drew ?_ | refine blk_alloc ?_ _)); exact BK183.out) hb)
                   have n17_ := Aside0.mk (Kd.C_below (by repeat (first | (with_reducible exact HR187.out) | (with_reducible refine Kd.C_alloc ?_ _) | (with_reducible refine Kd.C_drewN ?_ _) | (with_reducible refine Kd.C_drew ?_) | exact HR187.out)) hb)
                   have n18_ := Aside0.mk (below_step (by repeat (first | (with_reducible first | exact HB.out | apply below_alloc | apply pw_below_drewN | apply below_drew1 | refine below_set ?_ GE155.out | refine below_set ?_ GE169.out | refine below_set ?_ GE182.out | refine below_set ?_ GE183.out) | exact HB.out)) hb)
                   clear HO130
                   clear HO133
                   clear HO142
                   clear HO145
                   clear HO152
                   clear HO166
                   clear HO172
                   clear HO179
                   clear HO190
                   clear HO198
                   clear HO202
                   clear HO205
                   clear HO215
                   clear BK155
                   clear BK169
                   clear BK182
                   clear BK183
                   clear HR187
                   clear HB
                   have HO130 := n0_
                   have HO133 := n1_
                   have HO142 := n2_
                   have HO145 := n3_
                   have HO152 := n4_
                   have HO166 := n5_
                   have HO172 := n6_
                   have HO179 := n7_
                   have HO190 := n8_
                   have HO198 := n9_
                   have HO202 := n10_
                   have HO205 := n11_
                   have HO215 := n12_
                   have BK155 := n13_
                   have BK169 := n14_
                   have BK182 := n15_
                   have BK183 := n16_
                   have HR187 := n17_
                   have HB := n18_
                   clear n0_ n1_ n2_ n3_ n4_ n5_ n6_ n7_ n8_ n9_ n10_ n11_ n12_ n13_ n14_ n15_ n16_ n17_ n18_
                   (try clear hb)
                   (try clear hb2)
                   (try clear hk)
                   (try clear hi)
                   refine hK.out _ _ ⟨(blk_cell BK155.out 0).trans rfl, (blk_cell BK155.out 1).trans rfl, (blk_cell BK155.out 2).trans rfl, (blk_cell BK155.out 3).trans rfl, (blk_cell BK155.out 4).trans rfl, (blk_cell BK183.out 0).trans rfl, (blk_cell BK183.out 1).trans rfl, (blk_cell BK183.out 2).trans rfl, (blk_cell BK183.out 3).trans rfl, (blk_cell BK183.out 4).trans rfl⟩ (fun hHeld => ?_)
                   clear hK K
                   refine norm_ (a' := ?_) ?_ ?_
                   rotate_left
                   ·show Act.put _ (some 100) _ = _
                    simp only [Act.put, HW.LA, HW.LZ, HW.LS, i64_w, i32_w]
                    rfl
                   refine pure_ (i := 60) (N := some 101) (v := ?_) (a' := ?_) #[true, true, true, true, true, true, true, true, true, true, true, true, true, true, true, true, true, true, true, true, true, true, true, true, true, true, true, true, true, true, true, true, true, true, true, true, true, true, true, true, true, true, true, true, true, true, true, true, true, true, true, true, true, true, true, true, true, true, true, true, true, false, false] rfl rfl (any_of HT_.out (by kernel_rfl)) (fun _ _ _ h => h) (Or.inl ⟨by rfl, ?_⟩) ?_ ?_
                   rotate_left
                   ·intro w'
                    go_simp
                    with_reducible rfl
                   rotate_left
                   ·simp only [Act.put, HW.LA, HW.LZ, HW.LS, i64_w, i32_w]
                    rfl
                   refine pure_ (i := 61) (N := some 102) (v := ?_) (a' := ?_) #[true, true, true, true, true, true, true, true, true, true, true, true, true, true, true, true, true, true, true, true, true, true, true, true, true, true, true, true, true, true, true, true, true, true, true, true, true, true, true, true, true, true, true, true, true, true, true, true, true, true, true, true, true, true, true, true, true, true, true, true, true, true, false] rfl rfl (any_of HT_.out (by kernel_rfl)) (fun _ _ _ h => h) (Or.inl ⟨by rfl, ?_⟩) ?_ ?_
                   rotate_left
                   ·intro w'
                    go_simp
                    with_reducible rfl
                   rotate_left
                   ·simp only [Act.put, HW.LA, HW.LZ, HW.LS, i64_w, i32_w]
                    rfl
                   refine pure_ (i := 62) (N := some 0) (v := ?_) (a' := ?_) #[true, true, true, true, true, true, true, true, true, true, true, true, true, true, true, true, true, true, true, true, true, true, true, true, true, true, true, true, true, true, true, true, true, true, true, true, true, true, true, true, true, true, true, true, true, true, true, true, true, true, true, true, true, true, true, true, true, true, true, true, true, true, true] rfl rfl (any_of HT_.out (by kernel_rfl)) (fun _ _ _ h => h) (Or.inl ⟨by rfl, ?_⟩) ?_ ?_
                   rotate_left
                   ·intro w'
                    go_simp
                    with_reducible rfl
                   rotate_left
                   ·simp only [Act.put, HW.LA, HW.LZ, HW.LS, i64_w, i32_w]
                    rfl
                   refine done_ (done_of HT_.out (by kernel_rfl)) ?_
                   try go_wp2
                   go_ret
                   exact ⟨by first | rfl | (simp [errW_none, errW_some] <;> rfl) | (simp only [← hji6]; first | rfl | (simp [errW_none, errW_some] <;> rfl)) | (simp [*, errW_none, errW_some] <;> rfl), by repeat (first | (with_reducible first | exact HB.out | apply below_alloc | apply pw_below_drewN | apply below_drew1 | refine below_set ?_ GE155.out | refine below_set ?_ GE169.out | refine below_set ?_ GE182.out | refine below_set ?_ GE183.out) | exact HB.out)⟩
                 ·replace c31 := Bool.eq_false_iff.mpr c31
                  subst c31
                  have H1 : (none) = some r := by rw [if_neg (show ¬ (false = true) by decide)] at H; exact H
                  clear H
                  have H := H1
                  clear H1
                  exact absurd H (by simp)
               ·replace c27 := Bool.eq_false_iff.mpr c27
                subst c27
                have H1 : (none) = some r := by rw [if_neg (show ¬ (false = true) by decide)] at H; exact H
                clear H
                have H := H1
                clear H1
                exact absurd H (by simp)
              ·rw [if_neg c25] at H
               have c25b0 : ((t203.length : Int) == 39) = false := beq_eq_false_iff_ne.mpr c25
               have c25b1 : ((t203.length : Int) != 39) = true := bne_iff_ne.mpr c25
               exact absurd H (by simp)
             ·rw [if_neg c23] at H
              have c23b0 : ((t200.length : Int) == 32) = false := beq_eq_false_iff_ne.mpr c23
              have c23b1 : ((t200.length : Int) != 32) = true := bne_iff_ne.mpr c23
              exact absurd H (by simp)
            ·rw [if_neg c21] at H
             have c21b0 : (t181 == 42) = false := beq_eq_false_iff_ne.mpr c21
             have c21b1 : (t181 != 42) = true := bne_iff_ne.mpr c21
             exact absurd H (by simp)
           ·rw [if_neg c20] at H
            have c20b0 : (t168 == 40) = false := beq_eq_false_iff_ne.mpr c20
            have c20b1 : (t168 != 40) = true := bne_iff_ne.mpr c20
            exact absurd H (by simp)
          ·rw [if_neg c19] at H
           have c19b0 : (t154 == 0) = false := beq_eq_false_iff_ne.mpr c19
           have c19b1 : (t154 != 0) = true := bne_iff_ne.mpr c19
           exact absurd H (by simp)
         ·rw [if_neg c18] at H
          have c18b0 : (t153 == 27) = false := beq_eq_false_iff_ne.mpr c18
          have c18b1 : (t153 != 27) = true := bne_iff_ne.mpr c18
          exact absurd H (by simp)
        ·replace c17 := Bool.eq_false_iff.mpr c17
         subst c17
         have H1 : (none) = some r := by rw [if_neg (show ¬ (false = true) by decide)] at H; exact H
         clear H
         have H := H1
         clear H1
         exact absurd H (by simp)
       ·replace c14 := Bool.eq_false_iff.mpr c14
        subst c14
        have H1 : (none) = some r := by rw [if_neg (show ¬ (false = true) by decide)] at H; exact H
        clear H
        have H := H1
        clear H1
        exact absurd H (by simp)
      ·rw [if_neg c12] at H
       exact absurd H (by simp)
     ·rw [if_neg c11] at H
      have c11b0 : ((t131.length : Int) == 27) = false := beq_eq_false_iff_ne.mpr c11
      have c11b1 : ((t131.length : Int) != 27) = true := bne_iff_ne.mpr c11
      exact absurd H (by simp)
    ·rw [if_neg c8] at H
     exact absurd H (by simp)
   ·rw [if_neg c7] at H
    exact absurd H (by simp)
  ·rw [if_neg c4] at H
   exact absurd H (by simp)
 ·rw [if_neg c3] at H
  exact absurd H (by simp)

end Go.Proofs.Ytiphbgcmbbfpmaa.Px

-- Written by myprint.py, a program of this session's, over the kit's print.py; not a text of print.sh's own.
import Derived.Test.YtfgbcpdlhdgofaaHandFive
import Derived.Test.YtfgbcpdlhdgofaaHandPick
import Derived.Test.YtfgbcpdlhdgofaaHandBox
import Derived.Test.YtfgbcpdlhdgofaaPx0
import Derived.Test.YtfgbcpdlhdgofaaPx2
import Derived.Test.YtfgbcpdlhdgofaaPx4
import Derived.Test.YtfgbcpdlhdgofaaPx6
import Derived.Test.YtfgbcpdlhdgofaaPx8
namespace Go.Proofs.Ytfgbcpdlhdgofaa.Px
open Go.RowKit Go.Proofs.YtfgbcpdlhdgofaaW.PrintWords Go.Proofs.YtfgbcpdlhdgofaaW.PrintLast Go.Proofs.YtfgbcpdlhdgofaaW.PrintMore
attribute [local go_sem] max2_int min2_int max_two min_two max_three min_three max_four min_four   -- for this text's walks alone
set_option linter.unusedVariables false
set_option linter.unusedSimpArgs false

/-! ### phaetonlaw24_ImageBurst: function 5 -/
mutual
def phaetonlaw24_ImageBurst.j0 : Nat → Int → Bool → List Int → Bool → Bool → Int → List Int → Int → Int → Int → Int → Int → Option (Bool)
 | 0, _, _, _, _, _, _, _, _, _, _, _, _ => none
 | k + 1, x1, x7, x8, x9, x33, x259000, x259001, x260000, x260001, x260002, x260003, x260004 => if x33 = true then (if x9 = true then (none) else (if (x8.length : Int) = 0 then (if x7 = true then (some true) else (none)) else (none))) else ((some (([] : List Int) : List Int)).bind fun y269 => (if y269.length + x8.length < 140737488355328 then ((some (y269 ++ x8 : List Int)).bind fun y272 => (if (y272.length : Int) = 0 then (none) else (phaetonlaw24_ImageBurst.l0 k x1 x7 x8 y272 (Int.tmod (wrap64 (x260000)) (y272.length : Int)) 0 x259000 x259001 x260000 x260001 x260002 x260003 x260004))) else (none)))
def phaetonlaw24_ImageBurst.j2 : Nat → Int → Bool → List Int → List Int → Int → List Int → Option (Bool)
 | 0, _, _, _, _, _, _ => none
 | k + 1, x1, x7, x8, x10, x259000, x259001 => (image_Read.f k x10 x1).bind fun bt277 => (if (strOfNums x10).toList = (strOfNums x8).toList then (if bt277.2.2 = 0 then ((phaetonref24_Same.f bt277.1 bt277.2.1 x259000 x259001).bind fun t283 => (if t283 = true then (if x7 = true then (some true) else (none)) else (none))) else (none)) else (if bt277.2.2 = 0 then (phaetonlaw24_ImageBurst.j3 k x7 x8 x10 bt277.2.2 true) else (phaetonlaw24_ImageBurst.j3 k x7 x8 x10 bt277.2.2 (decide ((bt277.2.1.length : Int) > 0)))))
def phaetonlaw24_ImageBurst.j3 : Nat → Bool → List Int → List Int → Int → Bool → Option (Bool)
 | 0, _, _, _, _, _ => none
 | k + 1, x7, x8, x10, x14, x109 => if x109 = true then (none) else (if 14 ≤ (x10.length : Int) then ((some (x10.take 14 : List Int)).bind fun y284 => (if 14 ≤ (x8.length : Int) then ((some (x8.take 14 : List Int)).bind fun y288 => (if 2 ≤ (x10.length : Int) then (if 2 ≤ (x8.length : Int) then (if (strOfNums (x10.take 2)).toList = (strOfNums (x8.take 2)).toList then (if 6 ≤ 10 then (if 10 ≤ (x10.length : Int) then (if 10 ≤ (x8.length : Int) then (phaetonlaw24_ImageBurst.j4 k x7 x8 x10 x14 ((strOfNums y284).toList == (strOfNums y288).toList) ((strOfNums ((x10.take 10).drop 6)).toList == (strOfNums ((x8.take 10).drop 6)).toList)) else (none)) else (none)) else (none)) else (phaetonlaw24_ImageBurst.j4 k x7 x8 x10 x14 ((strOfNums y284).toList == (strOfNums y288).toList) false)) else (none)) else (none))) else (none))) else (none))
def phaetonlaw24_ImageBurst.j4 : Nat → Bool → List Int → List Int → Int → Bool → Bool → Option (Bool)
 | 0, _, _, _, _, _, _ => none
 | k + 1, x7, x8, x10, x14, x15, x16 => if 18 ≤ (x10.length : Int) then ((some (x10.drop 18 : List Int)).bind fun y308 => (if 18 ≤ (x8.length : Int) then ((some (x8.drop 18 : List Int)).bind fun y312 => (if x16 = true then (if 2 ≤ 6 then (if 6 ≤ (x10.length : Int) then (if 6 ≤ (x8.length : Int) then (if (strOfNums ((x10.take 6).drop 2)).toList = (strOfNums ((x8.take 6).drop 2)).toList then (phaetonlaw24_ImageBurst.j5 k x7 x10 x14 x15 ((strOfNums y308).toList == (strOfNums y312).toList) false) else (if 10 ≤ 14 then (if 14 ≤ (x10.length : Int) then (if 14 ≤ (x8.length : Int) then (if (strOfNums ((x10.take 14).drop 10)).toList = (strOfNums ((x8.take 14).drop 10)).toList then (phaetonlaw24_ImageBurst.j5 k x7 x10 x14 x15 ((strOfNums y308).toList == (strOfNums y312).toList) ((strOfNums y308).toList == (strOfNums y312).toList)) else (phaetonlaw24_ImageBurst.j5 k x7 x10 x14 x15 ((strOfNums y308).toList == (strOfNums y312).toList) false)) else (none)) else (none)) else (none))) else (none)) else (none)) else (none)) else (if x14 = 240 then (if x7 = true then (some true) else (none)) else (none)))) else (none))) else (none)
def phaetonlaw24_ImageBurst.j5 : Nat → Bool → List Int → Int → Bool → Bool → Bool → Option (Bool)
 | 0, _, _, _, _, _, _ => none
 | k + 1, x7, x10, x14, x15, x17, x165 => if x165 = true then (if 2 < (x10.length : Int) then (if ((x14 == 240) == (decide ((rd x10 2) > 127))) = true then (if x14 = 240 then (if x7 = true then (some true) else (none)) else (if x14 = 242 then (if x7 = true then (some true) else (none)) else (none))) else (none)) else (none)) else (if x15 = true then (if x17 = true then (if x14 = 242 then (if x7 = true then (some true) else (none)) else (none)) else (if x14 = 241 then (if x7 = true then (some true) else (none)) else (if 2 < (x10.length : Int) then (if (rd x10 2) > 127 then (if x14 = 240 then (if x7 = true then (some true) else (none)) else (none)) else (none)) else (none)))) else (if x14 = 241 then (if x7 = true then (some true) else (none)) else (if 2 < (x10.length : Int) then (if (rd x10 2) > 127 then (if x14 = 240 then (if x7 = true then (some true) else (none)) else (none)) else (none)) else (none))))
def phaetonlaw24_ImageBurst.l0 : Nat → Int → Bool → List Int → List Int → Int → Int → Int → List Int → Int → Int → Int → Int → Int → Option (Bool)
 | 0, _, _, _, _, _, _, _, _, _, _, _, _, _ => none
 | k + 1, x1, x7, x8, x10, x11, x12, x259000, x259001, x260000, x260001, x260002, x260003, x260004 => if x12 < 4 then (if (wrap64 (x11 + x12)) < (x10.length : Int) then (if 0 ≤ (wrap64 (x11 + x12)) then (phaetonlaw24_ImageBurst.l0 k x1 x7 x8 (x10.set ((wrap64 (x11 + x12)) : Int).toNat (Go.bits .xor .u8 (rd x10 (wrap64 (x11 + x12))) (HW.pick4 x260001 x260002 x260003 x260004 x12))) x11 (wrap64 (x12 + 1)) x259000 x259001 x260000 x260001 x260002 x260003 x260004) else (none)) else (phaetonlaw24_ImageBurst.j2 k x1 x7 x8 x10 x259000 x259001)) else (phaetonlaw24_ImageBurst.j2 k x1 x7 x8 x10 x259000 x259001)
end
def phaetonlaw24_ImageBurst.f (k : Nat) (a0_0 : Int) (l0_1 : List Int) (a1 : Int) (a2_0 : Int) (a2_1 : Int) (a2_2 : Int) (a2_3 : Int) (a2_4 : Int) : Option (Bool) := (phaetonlaw24_head.f k).bind fun t260 => ((phaetonlaw24_Cut.f a0_0 l0_1).bind fun bt261 => ((image_Pack.f k bt261.1 bt261.2 a1).bind fun bt265 => (if bt265.2 = true then (phaetonlaw24_ImageBurst.j0 k a1 t260 bt265.1 bt265.2 (decide ((bt265.1.length : Int) < 19)) bt261.1 bt261.2 a2_0 a2_1 a2_2 a2_3 a2_4) else (phaetonlaw24_ImageBurst.j0 k a1 t260 bt265.1 bt265.2 true bt261.1 bt261.2 a2_0 a2_1 a2_2 a2_3 a2_4))))
theorem phaetonlaw24_ImageBurst.mono_l : ∀ k, (∀ y0 y1 y2 y3 y4 y5 y6 y7 y8 y9 y10 y11, LeO (phaetonlaw24_ImageBurst.j0 k y0 y1 y2 y3 y4 y5 y6 y7 y8 y9 y10 y11) (phaetonlaw24_ImageBurst.j0 (k + 1) y0 y1 y2 y3 y4 y5 y6 y7 y8 y9 y10 y11)) ∧ (∀ y0 y1 y2 y3 y4 y5, LeO (phaetonlaw24_ImageBurst.j2 k y0 y1 y2 y3 y4 y5) (phaetonlaw24_ImageBurst.j2 (k + 1) y0 y1 y2 y3 y4 y5)) ∧ (∀ y0 y1 y2 y3 y4, LeO (phaetonlaw24_ImageBurst.j3 k y0 y1 y2 y3 y4) (phaetonlaw24_ImageBurst.j3 (k + 1) y0 y1 y2 y3 y4)) ∧ (∀ y0 y1 y2 y3 y4 y5, LeO (phaetonlaw24_ImageBurst.j4 k y0 y1 y2 y3 y4 y5) (phaetonlaw24_ImageBurst.j4 (k + 1) y0 y1 y2 y3 y4 y5)) ∧ (∀ y0 y1 y2 y3 y4 y5, LeO (phaetonlaw24_ImageBurst.j5 k y0 y1 y2 y3 y4 y5) (phaetonlaw24_ImageBurst.j5 (k + 1) y0 y1 y2 y3 y4 y5)) ∧ (∀ y0 y1 y2 y3 y4 y5 y6 y7 y8 y9 y10 y11 y12, LeO (phaetonlaw24_ImageBurst.l0 k y0 y1 y2 y3 y4 y5 y6 y7 y8 y9 y10 y11 y12) (phaetonlaw24_ImageBurst.l0 (k + 1) y0 y1 y2 y3 y4 y5 y6 y7 y8 y9 y10 y11 y12))
 | 0 => ⟨fun _ _ _ _ _ _ _ _ _ _ _ _ r h => by simp [phaetonlaw24_ImageBurst.j0] at h, fun _ _ _ _ _ _ r h => by simp [phaetonlaw24_ImageBurst.j2] at h, fun _ _ _ _ _ r h => by simp [phaetonlaw24_ImageBurst.j3] at h, fun _ _ _ _ _ _ r h => by simp [phaetonlaw24_ImageBurst.j4] at h, fun _ _ _ _ _ _ r h => by simp [phaetonlaw24_ImageBurst.j5] at h, fun _ _ _ _ _ _ _ _ _ _ _ _ _ r h => by simp [phaetonlaw24_ImageBurst.l0] at h⟩
 | k + 1 => by
  obtain ⟨ih0, ih1, ih2, ih3, ih4, ih5⟩ := phaetonlaw24_ImageBurst.mono_l k
  refine ⟨?_, ?_, ?_, ?_, ?_, ?_⟩
  ·intro y0 y1 y2 y3 y4 y5 y6 y7 y8 y9 y10 y11
   unfold phaetonlaw24_ImageBurst.j0
   repeat' first
   | (with_reducible exact ih0 _ _ _ _ _ _ _ _ _ _ _ _)
   | (with_reducible exact ih1 _ _ _ _ _ _)
   | (with_reducible exact ih2 _ _ _ _ _)
   | (with_reducible exact ih3 _ _ _ _ _ _)
   | (with_reducible exact ih4 _ _ _ _ _ _)
   | (with_reducible exact ih5 _ _ _ _ _ _ _ _ _ _ _ _ _)
   | (with_reducible exact image_Pack.mono _ _ _ _)
   | (with_reducible exact image_Read.mono _ _ _)
   | (with_reducible exact phaetonlaw24_head.mono _)
   | (with_reducible exact LeO.refl _)
   | (with_reducible exact LeO.none _)
   | (with_reducible refine LeO.ite ?_ ?_)
   | (with_reducible refine LeO.bind ?_ (fun _ => ?_))
   | exact ih0 _ _ _ _ _ _ _ _ _ _ _ _
   | exact ih1 _ _ _ _ _ _
   | exact ih2 _ _ _ _ _
   | exact ih3 _ _ _ _ _ _
   | exact ih4 _ _ _ _ _ _
   | exact ih5 _ _ _ _ _ _ _ _ _ _ _ _ _
   | exact image_Pack.mono _ _ _ _
   | exact image_Read.mono _ _ _
   | exact phaetonlaw24_head.mono _
   | exact LeO.none _
   | refine LeO.ite ?_ ?_
   | refine LeO.bind ?_ (fun _ => ?_)
  ·intro y0 y1 y2 y3 y4 y5
   unfold phaetonlaw24_ImageBurst.j2
   repeat' first
   | (with_reducible exact ih0 _ _ _ _ _ _ _ _ _ _ _ _)
   | (with_reducible exact ih1 _ _ _ _ _ _)
   | (with_reducible exact ih2 _ _ _ _ _)
   | (with_reducible exact ih3 _ _ _ _ _ _)
   | (with_reducible exact ih4 _ _ _ _ _ _)
   | (with_reducible exact ih5 _ _ _ _ _ _ _ _ _ _ _ _ _)
   | (with_reducible exact image_Pack.mono _ _ _ _)
   | (with_reducible exact image_Read.mono _ _ _)
   | (with_reducible exact phaetonlaw24_head.mono _)
   | (with_reducible exact LeO.refl _)
   | (with_reducible exact LeO.none _)
   | (with_reducible refine LeO.ite ?_ ?_)
   | (with_reducible refine LeO.bind ?_ (fun _ => ?_))
   | exact ih0 _ _ _ _ _ _ _ _ _ _ _ _
   | exact ih1 _ _ _ _ _ _
   | exact ih2 _ _ _ _ _
   | exact ih3 _ _ _ _ _ _
   | exact ih4 _ _ _ _ _ _
   | exact ih5 _ _ _ _ _ _ _ _ _ _ _ _ _
   | exact image_Pack.mono _ _ _ _
   | exact image_Read.mono _ _ _
   | exact phaetonlaw24_head.mono _
   | exact LeO.none _
   | refine LeO.ite ?_ ?_
   | refine LeO.bind ?_ (fun _ => ?_)
  ·intro y0 y1 y2 y3 y4
   unfold phaetonlaw24_ImageBurst.j3
   repeat' first
   | (with_reducible exact ih0 _ _ _ _ _ _ _ _ _ _ _ _)
   | (with_reducible exact ih1 _ _ _ _ _ _)
   | (with_reducible exact ih2 _ _ _ _ _)
   | (with_reducible exact ih3 _ _ _ _ _ _)
   | (with_reducible exact ih4 _ _ _ _ _ _)
   | (with_reducible exact ih5 _ _ _ _ _ _ _ _ _ _ _ _ _)
   | (with_reducible exact image_Pack.mono _ _ _ _)
   | (with_reducible exact image_Read.mono _ _ _)
   | (with_reducible exact phaetonlaw24_head.mono _)
   | (with_reducible exact LeO.refl _)
   | (with_reducible exact LeO.none _)
   | (with_reducible refine LeO.ite ?_ ?_)
   | (with_reducible refine LeO.bind ?_ (fun _ => ?_))
   | exact ih0 _ _ _ _ _ _ _ _ _ _ _ _
   | exact ih1 _ _ _ _ _ _
   | exact ih2 _ _ _ _ _
   | exact ih3 _ _ _ _ _ _
   | exact ih4 _ _ _ _ _ _
   | exact ih5 _ _ _ _ _ _ _ _ _ _ _ _ _
   | exact image_Pack.mono _ _ _ _
   | exact image_Read.mono _ _ _
   | exact phaetonlaw24_head.mono _
   | exact LeO.none _
   | refine LeO.ite ?_ ?_
   | refine LeO.bind ?_ (fun _ => ?_)
  ·intro y0 y1 y2 y3 y4 y5
   unfold phaetonlaw24_ImageBurst.j4
   repeat' first
   | (with_reducible exact ih0 _ _ _ _ _ _ _ _ _ _ _ _)
   | (with_reducible exact ih1 _ _ _ _ _ _)
   | (with_reducible exact ih2 _ _ _ _ _)
   | (with_reducible exact ih3 _ _ _ _ _ _)
   | (with_reducible exact ih4 _ _ _ _ _ _)
   | (with_reducible exact ih5 _ _ _ _ _ _ _ _ _ _ _ _ _)
   | (with_reducible exact image_Pack.mono _ _ _ _)
   | (with_reducible exact image_Read.mono _ _ _)
   | (with_reducible exact phaetonlaw24_head.mono _)
   | (with_reducible exact LeO.refl _)
   | (with_reducible exact LeO.none _)
   | (with_reducible refine LeO.ite ?_ ?_)
   | (with_reducible refine LeO.bind ?_ (fun _ => ?_))
   | exact ih0 _ _ _ _ _ _ _ _ _ _ _ _
   | exact ih1 _ _ _ _ _ _
   | exact ih2 _ _ _ _ _
   | exact ih3 _ _ _ _ _ _
   | exact ih4 _ _ _ _ _ _
   | exact ih5 _ _ _ _ _ _ _ _ _ _ _ _ _
   | exact image_Pack.mono _ _ _ _
   | exact image_Read.mono _ _ _
   | exact phaetonlaw24_head.mono _
   | exact LeO.none _
   | refine LeO.ite ?_ ?_
   | refine LeO.bind ?_ (fun _ => ?_)
  ·intro y0 y1 y2 y3 y4 y5
   unfold phaetonlaw24_ImageBurst.j5
   repeat' first
   | (with_reducible exact ih0 _ _ _ _ _ _ _ _ _ _ _ _)
   | (with_reducible exact ih1 _ _ _ _ _ _)
   | (with_reducible exact ih2 _ _ _ _ _)
   | (with_reducible exact ih3 _ _ _ _ _ _)
   | (with_reducible exact ih4 _ _ _ _ _ _)
   | (with_reducible exact ih5 _ _ _ _ _ _ _ _ _ _ _ _ _)
   | (with_reducible exact image_Pack.mono _ _ _ _)
   | (with_reducible exact image_Read.mono _ _ _)
   | (with_reducible exact phaetonlaw24_head.mono _)
   | (with_reducible exact LeO.refl _)
   | (with_reducible exact LeO.none _)
   | (with_reducible refine LeO.ite ?_ ?_)
   | (with_reducible refine LeO.bind ?_ (fun _ => ?_))
   | exact ih0 _ _ _ _ _ _ _ _ _ _ _ _
   | exact ih1 _ _ _ _ _ _
   | exact ih2 _ _ _ _ _
   | exact ih3 _ _ _ _ _ _
   | exact ih4 _ _ _ _ _ _
   | exact ih5 _ _ _ _ _ _ _ _ _ _ _ _ _
   | exact image_Pack.mono _ _ _ _
   | exact image_Read.mono _ _ _
   | exact phaetonlaw24_head.mono _
   | exact LeO.none _
   | refine LeO.ite ?_ ?_
   | refine LeO.bind ?_ (fun _ => ?_)
  ·intro y0 y1 y2 y3 y4 y5 y6 y7 y8 y9 y10 y11 y12
   unfold phaetonlaw24_ImageBurst.l0
   repeat' first
   | (with_reducible exact ih0 _ _ _ _ _ _ _ _ _ _ _ _)
   | (with_reducible exact ih1 _ _ _ _ _ _)
   | (with_reducible exact ih2 _ _ _ _ _)
   | (with_reducible exact ih3 _ _ _ _ _ _)
   | (with_reducible exact ih4 _ _ _ _ _ _)
   | (with_reducible exact ih5 _ _ _ _ _ _ _ _ _ _ _ _ _)
   | (with_reducible exact image_Pack.mono _ _ _ _)
   | (with_reducible exact image_Read.mono _ _ _)
   | (with_reducible exact phaetonlaw24_head.mono _)
   | (with_reducible exact LeO.refl _)
   | (with_reducible exact LeO.none _)
   | (with_reducible refine LeO.ite ?_ ?_)
   | (with_reducible refine LeO.bind ?_ (fun _ => ?_))
   | exact ih0 _ _ _ _ _ _ _ _ _ _ _ _
   | exact ih1 _ _ _ _ _ _
   | exact ih2 _ _ _ _ _
   | exact ih3 _ _ _ _ _ _
   | exact ih4 _ _ _ _ _ _
   | exact ih5 _ _ _ _ _ _ _ _ _ _ _ _ _
   | exact image_Pack.mono _ _ _ _
   | exact image_Read.mono _ _ _
   | exact phaetonlaw24_head.mono _
   | exact LeO.none _
   | refine LeO.ite ?_ ?_
   | refine LeO.bind ?_ (fun _ => ?_)
theorem phaetonlaw24_ImageBurst.mono : ∀ a0 a1 a2 a3 a4 a5 a6 a7 k, LeO (phaetonlaw24_ImageBurst.f k a0 a1 a2 a3 a4 a5 a6 a7) (phaetonlaw24_ImageBurst.f (k + 1) a0 a1 a2 a3 a4 a5 a6 a7) := by
 intro a0 a1 a2 a3 a4 a5 a6 a7 k
 obtain ⟨ih0, ih1, ih2, ih3, ih4, ih5⟩ := phaetonlaw24_ImageBurst.mono_l k
 unfold phaetonlaw24_ImageBurst.f
 repeat' first
   | (with_reducible exact ih0 _ _ _ _ _ _ _ _ _ _ _ _)
   | (with_reducible exact ih1 _ _ _ _ _ _)
   | (with_reducible exact ih2 _ _ _ _ _)
   | (with_reducible exact ih3 _ _ _ _ _ _)
   | (with_reducible exact ih4 _ _ _ _ _ _)
   | (with_reducible exact ih5 _ _ _ _ _ _ _ _ _ _ _ _ _)
   | (with_reducible exact image_Pack.mono _ _ _ _)
   | (with_reducible exact image_Read.mono _ _ _)
   | (with_reducible exact phaetonlaw24_head.mono _)
   | (with_reducible exact LeO.refl _)
   | (with_reducible exact LeO.none _)
   | (with_reducible refine LeO.ite ?_ ?_)
   | (with_reducible refine LeO.bind ?_ (fun _ => ?_))
   | exact ih0 _ _ _ _ _ _ _ _ _ _ _ _
   | exact ih1 _ _ _ _ _ _
   | exact ih2 _ _ _ _ _
   | exact ih3 _ _ _ _ _ _
   | exact ih4 _ _ _ _ _ _
   | exact ih5 _ _ _ _ _ _ _ _ _ _ _ _ _
   | exact image_Pack.mono _ _ _ _
   | exact image_Read.mono _ _ _
   | exact phaetonlaw24_head.mono _
   | exact LeO.none _
   | refine LeO.ite ?_ ?_
   | refine LeO.bind ?_ (fun _ => ?_)
end Go.Proofs.Ytfgbcpdlhdgofaa.Px

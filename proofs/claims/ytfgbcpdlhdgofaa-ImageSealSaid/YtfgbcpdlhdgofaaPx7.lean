-- Written by myprint.py, a program of this session's, over the kit's print.py; not a text of print.sh's own.
import Derived.Test.YtfgbcpdlhdgofaaHandFive
import Derived.Test.YtfgbcpdlhdgofaaHandPick
import Derived.Test.YtfgbcpdlhdgofaaHandBox
import Derived.Test.YtfgbcpdlhdgofaaPx0
import Derived.Test.YtfgbcpdlhdgofaaPx5
import Derived.Test.YtfgbcpdlhdgofaaPx6
namespace Go.Proofs.Ytfgbcpdlhdgofaa.Px
open Go.RowKit Go.Proofs.YtfgbcpdlhdgofaaW.PrintWords Go.Proofs.YtfgbcpdlhdgofaaW.PrintLast Go.Proofs.YtfgbcpdlhdgofaaW.PrintMore
attribute [local go_sem] max2_int min2_int max_two min_two max_three min_three max_four min_four   -- for this text's walks alone
set_option linter.unusedVariables false
set_option linter.unusedSimpArgs false

/-! ### phaetonlaw24_ImageSeal: function 7 -/
def phaetonlaw24_ImageSeal.l0 : Nat → List Int → Int → Bool → Int → List Int → Int → Int → Int → Int → Int → Int → Int → Option (Bool)
 | 0, _, _, _, _, _, _, _, _, _, _, _, _ => none
 | k + 1, x0, x1, x7, x8, x9, x10, x11, x225000, x225001, x225002, x225003, x225004 => if x11 < 4 then (if (wrap64 (x10 + x11)) < (x9.length : Int) then (if 0 ≤ (wrap64 (x10 + x11)) then (phaetonlaw24_ImageSeal.l0 k x0 x1 x7 x8 (x9.set ((wrap64 (x10 + x11)) : Int).toNat (Go.bits .xor .u8 (rd x9 (wrap64 (x10 + x11))) (HW.pick4 x225001 x225002 x225003 x225004 x11))) x10 (wrap64 (x11 + 1)) x225000 x225001 x225002 x225003 x225004) else (none)) else (if x8 ≥ 0 then (if x8 ≤ 4294967295 then ((image_Seal.f k x9 x1).bind fun t244 => (if ((t244 == x8) == ((strOfNums x9).toList == (strOfNums x0).toList)) = true then (if x7 = true then (some true) else (none)) else (none))) else (none)) else (none))) else (if x8 ≥ 0 then (if x8 ≤ 4294967295 then ((image_Seal.f k x9 x1).bind fun t245 => (if ((t245 == x8) == ((strOfNums x9).toList == (strOfNums x0).toList)) = true then (if x7 = true then (some true) else (none)) else (none))) else (none)) else (none))
def phaetonlaw24_ImageSeal.f (k : Nat) (l0 : List Int) (a1 : Int) (a2_0 : Int) (a2_1 : Int) (a2_2 : Int) (a2_3 : Int) (a2_4 : Int) : Option (Bool) := (phaetonlaw24_head.f k).bind fun t225 => ((some (([] : List Int) : List Int)).bind fun y226 => (if 0 ≤ (mn (l0.length : Int) 300) then (if (mn (l0.length : Int) 300) ≤ (l0.length : Int) then (if y226.length + (l0.take ((mn (l0.length : Int) 300) : Int).toNat).length < 140737488355328 then ((some (y226 ++ (l0.take ((mn (l0.length : Int) 300) : Int).toNat) : List Int)).bind fun y230 => ((image_Seal.f k y230 a1).bind fun t233 => ((phaetonref24_May.f a1).bind fun t234 => (if t234 = true then (if (y230.length : Int) = 0 then ((phaetonref24_Seal.f k y230 a1).bind fun t235 => (if t233 = t235 then (if t225 = true then (some true) else (none)) else (none))) else ((some (([] : List Int) : List Int)).bind fun y236 => (if y236.length + y230.length < 140737488355328 then ((some (y236 ++ y230 : List Int)).bind fun y239 => (if (y239.length : Int) = 0 then (none) else (phaetonlaw24_ImageSeal.l0 k y230 a1 t225 t233 y239 (Int.tmod (wrap64 (a2_0)) (y239.length : Int)) 0 a2_0 a2_1 a2_2 a2_3 a2_4))) else (none)))) else (if t233 = 0 then (if t225 = true then (some true) else (none)) else (none)))))) else (none)) else (none)) else (none)))
theorem phaetonlaw24_ImageSeal.mono_l : ∀ k, (∀ y0 y1 y2 y3 y4 y5 y6 y7 y8 y9 y10 y11, LeO (phaetonlaw24_ImageSeal.l0 k y0 y1 y2 y3 y4 y5 y6 y7 y8 y9 y10 y11) (phaetonlaw24_ImageSeal.l0 (k + 1) y0 y1 y2 y3 y4 y5 y6 y7 y8 y9 y10 y11))
 | 0 => fun _ _ _ _ _ _ _ _ _ _ _ _ r h => by simp [phaetonlaw24_ImageSeal.l0] at h
 | k + 1 => by
  have ih0 := phaetonlaw24_ImageSeal.mono_l k
  ·intro y0 y1 y2 y3 y4 y5 y6 y7 y8 y9 y10 y11
   unfold phaetonlaw24_ImageSeal.l0
   repeat' first
   | (with_reducible exact ih0 _ _ _ _ _ _ _ _ _ _ _ _)
   | (with_reducible exact image_Seal.mono _ _ _)
   | (with_reducible exact phaetonlaw24_head.mono _)
   | (with_reducible exact phaetonref24_Seal.mono _ _ _)
   | (with_reducible exact LeO.refl _)
   | (with_reducible exact LeO.none _)
   | (with_reducible refine LeO.ite ?_ ?_)
   | (with_reducible refine LeO.bind ?_ (fun _ => ?_))
   | exact ih0 _ _ _ _ _ _ _ _ _ _ _ _
   | exact image_Seal.mono _ _ _
   | exact phaetonlaw24_head.mono _
   | exact phaetonref24_Seal.mono _ _ _
   | exact LeO.none _
   | refine LeO.ite ?_ ?_
   | refine LeO.bind ?_ (fun _ => ?_)
theorem phaetonlaw24_ImageSeal.mono : ∀ a0 a1 a2 a3 a4 a5 a6 k, LeO (phaetonlaw24_ImageSeal.f k a0 a1 a2 a3 a4 a5 a6) (phaetonlaw24_ImageSeal.f (k + 1) a0 a1 a2 a3 a4 a5 a6) := by
 intro a0 a1 a2 a3 a4 a5 a6 k
 have ih0 := phaetonlaw24_ImageSeal.mono_l k
 unfold phaetonlaw24_ImageSeal.f
 repeat' first
   | (with_reducible exact ih0 _ _ _ _ _ _ _ _ _ _ _ _)
   | (with_reducible exact image_Seal.mono _ _ _)
   | (with_reducible exact phaetonlaw24_head.mono _)
   | (with_reducible exact phaetonref24_Seal.mono _ _ _)
   | (with_reducible exact LeO.refl _)
   | (with_reducible exact LeO.none _)
   | (with_reducible refine LeO.ite ?_ ?_)
   | (with_reducible refine LeO.bind ?_ (fun _ => ?_))
   | exact ih0 _ _ _ _ _ _ _ _ _ _ _ _
   | exact image_Seal.mono _ _ _
   | exact phaetonlaw24_head.mono _
   | exact phaetonref24_Seal.mono _ _ _
   | exact LeO.none _
   | refine LeO.ite ?_ ?_
   | refine LeO.bind ?_ (fun _ => ?_)
def phaetonlaw24_ImageSeal.T13 : Bool × List (List Nat × List Nat) := (true, [([], []), ([], []), ([], []), ([1, 2], [1, 2]), ([], []), ([], []), ([], []), ([5, 6], [5, 6]), ([4, 7], [4, 7]), ([8], [8]), ([], []), ([], []), ([11, 10], [10, 11]), ([12], [12]), ([9, 13], [9, 13]), ([0, 3, 0, 1, 2, 3, 4, 5, 6, 7, 8, 9, 10, 11, 12, 13, 14], [0, 3]), ([15, 14, 0, 1, 2, 3, 4, 5, 6, 7, 8, 9, 10, 11, 12, 13, 14], [14, 15])])
def phaetonlaw24_ImageSeal.B13 : List Nat := [0, 0, 0, 6, 0, 0, 0, 96, 240, 496, 0, 0, 3072, 7168, 16368, 32767, 65535]
theorem phaetonlaw24_ImageSeal.tab13 : rtab .any (opsOf Try.f7 13) = phaetonlaw24_ImageSeal.T13 := by kernel_rfl
theorem phaetonlaw24_ImageSeal.bits13 : waitsOk phaetonlaw24_ImageSeal.T13.2 phaetonlaw24_ImageSeal.B13 = true := by kernel_rfl
def phaetonlaw24_ImageSeal.T14 : Bool × List (List Nat × List Nat) := (true, [([], []), ([0], [0]), ([1], [1]), ([2], [2]), ([3, 2], [2, 3]), ([2, 4], [2, 4]), ([5, 2], [5]), ([6], [6]), ([6], [6]), ([7, 8, 6, 6], [6, 7, 8]), ([6], [6]), ([9, 10, 6], [6, 9, 10]), ([6], [6]), ([12, 6], [6, 12]), ([6], [6]), ([14, 6], [6, 14]), ([13, 15, 6], [6, 13, 15]), ([11, 16, 6], [6, 11, 16]), ([6, 17], [6, 17]), ([18, 9], [18]), ([19], [19]), ([19, 20], [19, 20]), ([21, 19, 0, 1, 2, 3, 4, 5, 6, 7, 8, 9, 10, 11, 12, 13, 14, 15, 16, 17, 18, 19, 20, 21], [21])])
def phaetonlaw24_ImageSeal.B14 : List Nat := [0, 1, 3, 7, 15, 31, 63, 127, 127, 511, 127, 2047, 127, 4223, 127, 16511, 61567, 131071, 262143, 524287, 1048575, 2097151, 4194303]
theorem phaetonlaw24_ImageSeal.tab14 : rtab .any (opsOf Try.f7 14) = phaetonlaw24_ImageSeal.T14 := by kernel_rfl
theorem phaetonlaw24_ImageSeal.bits14 : waitsOk phaetonlaw24_ImageSeal.T14.2 phaetonlaw24_ImageSeal.B14 = true := by kernel_rfl
set_option maxHeartbeats 8000000 in
set_option maxRecDepth 100000 in
theorem phaetonlaw24_ImageSeal.calls (k : Nat) (A0 : Option Addr) (c0 : Nat) (l0 : List Int) (a1 : Int) (a2_0 : Int) (a2_1 : Int) (a2_2 : Int) (a2_3 : Int) (a2_4 : Int) (r : Bool) (w : World) (hr0 : Kd.C (Kd.int .u8) w A0 l0.length l0) (hc0 : l0.length ≤ c0) (h : phaetonlaw24_ImageSeal.f k l0 a1 a2_0 a2_1 a2_2 a2_3 a2_4 = some r) :
  Calls Try.prog 7 #[.slice A0 l0.length c0, .int .i64 a1, .agg #[.int .u16 a2_0, .int .u8 a2_1, .int .u8 a2_2, .int .u8 a2_3, .int .u8 a2_4]] w fun e w' => e = .returned (.bool r) ∧ Below w.heap.size w w' := by
 have hu43 := Try.underlying43
 have HR0 := Aside0.mk hr0
 have HC0 := Aside0.mk hc0
 clear hr0 hc0
 have HB := Aside0.mk (Below.refl w.heap.size w)
 have H : ((phaetonlaw24_head.f k).bind fun t225 => ((some (([] : List Int) : List Int)).bind fun y226 => (if 0 ≤ (mn (l0.length : Int) 300) then (if (mn (l0.length : Int) 300) ≤ (l0.length : Int) then (if y226.length + (l0.take ((mn (l0.length : Int) 300) : Int).toNat).length < 140737488355328 then ((some (y226 ++ (l0.take ((mn (l0.length : Int) 300) : Int).toNat) : List Int)).bind fun y230 => ((image_Seal.f k y230 a1).bind fun t233 => ((phaetonref24_May.f a1).bind fun t234 => (if t234 = true then (if (y230.length : Int) = 0 then ((phaetonref24_Seal.f k y230 a1).bind fun t235 => (if t233 = t235 then (if t225 = true then (some true) else (none)) else (none))) else ((some (([] : List Int) : List Int)).bind fun y236 => (if y236.length + y230.length < 140737488355328 then ((some (y236 ++ y230 : List Int)).bind fun y239 => (if (y239.length : Int) = 0 then (none) else (phaetonlaw24_ImageSeal.l0 k y230 a1 t225 t233 y239 (Int.tmod (wrap64 (a2_0)) (y239.length : Int)) 0 a2_0 a2_1 a2_2 a2_3 a2_4))) else (none)))) else (if t233 = 0 then (if t225 = true then (some true) else (none)) else (none)))))) else (none)) else (none)) else (none)))) = some r := h
 clear h
 replace H := Option.bind_eq_some_iff.mp H
 obtain ⟨t225, A40, H⟩ := H
 replace H : ((some (([] : List Int) : List Int)).bind fun y226 => (if 0 ≤ (mn (l0.length : Int) 300) then (if (mn (l0.length : Int) 300) ≤ (l0.length : Int) then (if y226.length + (l0.take ((mn (l0.length : Int) 300) : Int).toNat).length < 140737488355328 then ((some (y226 ++ (l0.take ((mn (l0.length : Int) 300) : Int).toNat) : List Int)).bind fun y230 => ((image_Seal.f k y230 a1).bind fun t233 => ((phaetonref24_May.f a1).bind fun t234 => (if t234 = true then (if (y230.length : Int) = 0 then ((phaetonref24_Seal.f k y230 a1).bind fun t235 => (if t233 = t235 then (if t225 = true then (some true) else (none)) else (none))) else ((some (([] : List Int) : List Int)).bind fun y236 => (if y236.length + y230.length < 140737488355328 then ((some (y236 ++ y230 : List Int)).bind fun y239 => (if (y239.length : Int) = 0 then (none) else (phaetonlaw24_ImageSeal.l0 k y230 a1 t225 t233 y239 (Int.tmod (wrap64 (a2_0)) (y239.length : Int)) 0 a2_0 a2_1 a2_2 a2_3 a2_4))) else (none)))) else (if t233 = 0 then (if t225 = true then (some true) else (none)) else (none)))))) else (none)) else (none)) else (none))) = some r := H
 have A4 := Aside0.mk A40
 clear A40
 obtain ⟨y226, hy226⟩ : ∃ y_ : List Int, y_ = (([] : List Int)) := ⟨_, rfl⟩
 replace H : (if 0 ≤ (mn (l0.length : Int) 300) then (if (mn (l0.length : Int) 300) ≤ (l0.length : Int) then (if y226.length + (l0.take ((mn (l0.length : Int) 300) : Int).toNat).length < 140737488355328 then ((some (y226 ++ (l0.take ((mn (l0.length : Int) 300) : Int).toNat) : List Int)).bind fun y230 => ((image_Seal.f k y230 a1).bind fun t233 => ((phaetonref24_May.f a1).bind fun t234 => (if t234 = true then (if (y230.length : Int) = 0 then ((phaetonref24_Seal.f k y230 a1).bind fun t235 => (if t233 = t235 then (if t225 = true then (some true) else (none)) else (none))) else ((some (([] : List Int) : List Int)).bind fun y236 => (if y236.length + y230.length < 140737488355328 then ((some (y236 ++ y230 : List Int)).bind fun y239 => (if (y239.length : Int) = 0 then (none) else (phaetonlaw24_ImageSeal.l0 k y230 a1 t225 t233 y239 (Int.tmod (wrap64 (a2_0)) (y239.length : Int)) 0 a2_0 a2_1 a2_2 a2_3 a2_4))) else (none)))) else (if t233 = 0 then (if t225 = true then (some true) else (none)) else (none)))))) else (none)) else (none)) else (none)) = some r := by first | (rw [hy226]; with_reducible exact H) | (have H2_ := (Option.bind_some _ _).symm.trans H; rw [hy226]; with_reducible exact H2_) | (have H2_ := (Option.bind_some _ _).symm.trans H; with_reducible exact H2_) | with_reducible exact H | (rw [hy226]; exact H) | exact H
 have Ny226 := Aside0.mk hy226
 clear hy226
 obtain ⟨ji5, hji5⟩ : ∃ j_ : Int, (mn (l0.length : Int) 300) = j_ := ⟨_, rfl⟩
 replace H : (if 0 ≤ (ji5) then (if (ji5) ≤ (l0.length : Int) then (if y226.length + (l0.take ((ji5) : Int).toNat).length < 140737488355328 then ((some (y226 ++ (l0.take ((ji5) : Int).toNat) : List Int)).bind fun y230 => ((image_Seal.f k y230 a1).bind fun t233 => ((phaetonref24_May.f a1).bind fun t234 => (if t234 = true then (if (y230.length : Int) = 0 then ((phaetonref24_Seal.f k y230 a1).bind fun t235 => (if t233 = t235 then (if t225 = true then (some true) else (none)) else (none))) else ((some (([] : List Int) : List Int)).bind fun y236 => (if y236.length + y230.length < 140737488355328 then ((some (y236 ++ y230 : List Int)).bind fun y239 => (if (y239.length : Int) = 0 then (none) else (phaetonlaw24_ImageSeal.l0 k y230 a1 t225 t233 y239 (Int.tmod (wrap64 (a2_0)) (y239.length : Int)) 0 a2_0 a2_1 a2_2 a2_3 a2_4))) else (none)))) else (if t233 = 0 then (if t225 = true then (some true) else (none)) else (none)))))) else (none)) else (none)) else (none)) = some r := by first | (rw [hji5] at H; exact H) | (simp only [hji5] at H ⊢; exact H)
 (try rw [hji5] at A4)
 (try (have hji5h : ji5 ≤ 300 := by (rw [← hji5]; unfold mn; (repeat' split) <;> omega)))
 (try (have hji5g : ji5 ≤ 64 := by omega))
 (try (have hji5l : 0 ≤ ji5 := by (rw [← hji5]; unfold mn; (repeat' split) <;> omega)))
 (try (have hji5m : 0 ≤ ji5 := by omega))
 have hji5_ : (if 300 < (l0.length : Int) then 300 else (l0.length : Int)) = ji5 := hji5
 by_cases c6 : 0 ≤ (ji5)
 ·rw [if_pos c6] at H
  have c6b0 := eq_true c6
  have c6b1 : decide (0 ≤ (ji5)) = true := decide_eq_true c6
  have c6m : max (ji5) 0 = (ji5) := by omega
  clear c6
  by_cases c7 : (ji5) ≤ (l0.length : Int)
  ·rw [if_pos c7] at H
   have c7b0 := eq_true c7
   have c7b1 : decide ((ji5) ≤ (l0.length : Int)) = true := decide_eq_true c7
   clear c7
   by_cases c8 : y226.length + (l0.take ((ji5) : Int).toNat).length < 140737488355328
   ·rw [if_pos c8] at H
    have LMc8 := Aside0.mk c8
    clear c8
    obtain ⟨y230, hy230⟩ : ∃ y_ : List Int, y_ = (y226 ++ (l0.take ((ji5) : Int).toNat)) := ⟨_, rfl⟩
    replace H : ((image_Seal.f k y230 a1).bind fun t233 => ((phaetonref24_May.f a1).bind fun t234 => (if t234 = true then (if (y230.length : Int) = 0 then ((phaetonref24_Seal.f k y230 a1).bind fun t235 => (if t233 = t235 then (if t225 = true then (some true) else (none)) else (none))) else ((some (([] : List Int) : List Int)).bind fun y236 => (if y236.length + y230.length < 140737488355328 then ((some (y236 ++ y230 : List Int)).bind fun y239 => (if (y239.length : Int) = 0 then (none) else (phaetonlaw24_ImageSeal.l0 k y230 a1 t225 t233 y239 (Int.tmod (wrap64 (a2_0)) (y239.length : Int)) 0 a2_0 a2_1 a2_2 a2_3 a2_4))) else (none)))) else (if t233 = 0 then (if t225 = true then (some true) else (none)) else (none))))) = some r := by first | (rw [hy230]; with_reducible exact H) | (have H2_ := (Option.bind_some _ _).symm.trans H; rw [hy230]; with_reducible exact H2_) | (have H2_ := (Option.bind_some _ _).symm.trans H; with_reducible exact H2_) | with_reducible exact H | (rw [hy230]; exact H) | exact H
    have Ny230 := Aside0.mk hy230
    clear hy230
    replace H := Option.bind_eq_some_iff.mp H
    obtain ⟨t233, A90, H⟩ := H
    replace H : ((phaetonref24_May.f a1).bind fun t234 => (if t234 = true then (if (y230.length : Int) = 0 then ((phaetonref24_Seal.f k y230 a1).bind fun t235 => (if t233 = t235 then (if t225 = true then (some true) else (none)) else (none))) else ((some (([] : List Int) : List Int)).bind fun y236 => (if y236.length + y230.length < 140737488355328 then ((some (y236 ++ y230 : List Int)).bind fun y239 => (if (y239.length : Int) = 0 then (none) else (phaetonlaw24_ImageSeal.l0 k y230 a1 t225 t233 y239 (Int.tmod (wrap64 (a2_0)) (y239.length : Int)) 0 a2_0 a2_1 a2_2 a2_3 a2_4))) else (none)))) else (if t233 = 0 then (if t225 = true then (some true) else (none)) else (none)))) = some r := H
    have A9 := Aside0.mk A90
    clear A90
    replace H := Option.bind_eq_some_iff.mp H
    obtain ⟨t234, A100, H⟩ := H
    replace H : (if t234 = true then (if (y230.length : Int) = 0 then ((phaetonref24_Seal.f k y230 a1).bind fun t235 => (if t233 = t235 then (if t225 = true then (some true) else (none)) else (none))) else ((some (([] : List Int) : List Int)).bind fun y236 => (if y236.length + y230.length < 140737488355328 then ((some (y236 ++ y230 : List Int)).bind fun y239 => (if (y239.length : Int) = 0 then (none) else (phaetonlaw24_ImageSeal.l0 k y230 a1 t225 t233 y239 (Int.tmod (wrap64 (a2_0)) (y239.length : Int)) 0 a2_0 a2_1 a2_2 a2_3 a2_4))) else (none)))) else (if t233 = 0 then (if t225 = true then (some true) else (none)) else (none))) = some r := H
    have A10 := Aside0.mk A100
    clear A100
    by_cases c11 : t234 = true
    ·subst c11
     have H1 : (if (y230.length : Int) = 0 then ((phaetonref24_Seal.f k y230 a1).bind fun t235 => (if t233 = t235 then (if t225 = true then (some true) else (none)) else (none))) else ((some (([] : List Int) : List Int)).bind fun y236 => (if y236.length + y230.length < 140737488355328 then ((some (y236 ++ y230 : List Int)).bind fun y239 => (if (y239.length : Int) = 0 then (none) else (phaetonlaw24_ImageSeal.l0 k y230 a1 t225 t233 y239 (Int.tmod (wrap64 (a2_0)) (y239.length : Int)) 0 a2_0 a2_1 a2_2 a2_3 a2_4))) else (none)))) = some r := by rw [if_pos rfl] at H; exact H
     clear H
     have H := H1
     clear H1
     by_cases c12 : (y230.length : Int) = 0
     ·rw [if_pos c12] at H
      have c12b0 : ((y230.length : Int) == 0) = true := beq_iff_eq.mpr c12
      have c12b1 : ((y230.length : Int) != 0) = false := bne_eq_false_iff_eq.mpr c12
      clear c12
      replace H := Option.bind_eq_some_iff.mp H
      obtain ⟨t235, A130, H⟩ := H
      replace H : (if t233 = t235 then (if t225 = true then (some true) else (none)) else (none)) = some r := H
      have A13 := Aside0.mk A130
      clear A130
      by_cases c14 : t233 = t235
      ·rw [if_pos c14] at H
       have c14b0 : (t233 == t235) = true := beq_iff_eq.mpr c14
       have c14b1 : (t233 != t235) = false := bne_eq_false_iff_eq.mpr c14
       clear c14
       by_cases c15 : t225 = true
       ·subst c15
        have H1 : (some true) = some r := by rw [if_pos rfl] at H; exact H
        clear H
        have H := H1
        clear H1
        obtain rfl := Option.some.inj H
        go_enter Try.func7, Try.ntmps7
        (try simp only [List.append])
        go_wp2_with (first | ((with_reducible refine gate_store (t := 43) (p := 5) rfl ?_); refine HW.store_box5 rfl rfl 43 _ _ rfl rfl rfl BK224.out rfl (by kernel_rfl) rfl rfl rfl rfl rfl ?_; intro w1_ hw1_ hk1_; subst hw1_; have hcb224_0 := (blk_cell hk1_ 0).trans rfl; have hfb224_0 := blk_frozen hk1_ 0; have hcb224_1 := (blk_cell hk1_ 1).trans rfl; have hfb224_1 := blk_frozen hk1_ 1; have hcb224_2 := (blk_cell hk1_ 2).trans rfl; have hfb224_2 := blk_frozen hk1_ 2; have hcb224_3 := (blk_cell hk1_ 3).trans rfl; have hfb224_3 := blk_frozen hk1_ 3; have hcb224_4 := (blk_cell hk1_ 4).trans rfl; have hfb224_4 := blk_frozen hk1_ 4; clear hk1_) | ((with_reducible refine gate_dst (N := 5) rfl ?_); (try (refine gate_guard (by rfl) ?_; dsimp only)); refine box_event ?hg (N := 5) ?hd (cs := #[.int .u16 a2_0, .int .u8 a2_1, .int .u8 a2_2, .int .u8 a2_3, .int .u8 a2_4]) (t := 43) ?hr ?_; (case hd => rfl); (case hg => rfl); (case hr => first | (go_simp; done) | (go_simp; rfl)); intro gb224 hg w16 hbox hb; have n0_ := Aside0.mk (below_step (by repeat (first | (with_reducible first | exact HB.out | apply below_alloc | apply pw_below_drewN | apply below_drew1) | exact HB.out)) hb); have n1_ := Aside0.mk (hbox); have n2_ := Aside0.mk ((by rw [hg]; exact (below_size (by repeat (first | (with_reducible first | exact HB.out | apply below_alloc | apply pw_below_drewN | apply below_drew1) | exact HB.out))) : w.heap.size ≤ gb224)); have n3_ := Aside0.mk ((by rw [hg]; exact (below_size (by repeat (first | (with_reducible first | exact HB.out | apply below_alloc | apply pw_below_drewN | apply below_drew1) | exact HB.out))) : w.heap.size ≤ gb224)); clear HB; have HB := n0_; have BK224 := n1_; have GW224 := n2_; have GE224 := n3_; clear n0_ n1_ n2_ n3_; clear hb hbox hg) | ((with_reducible refine gate_callee (f := 11) rfl ?_); refine goesL_ (some 12) rfl rfl Try.func11 (by kernel_rfl) rfl #[] rfl (by (try simp only [List.map_toArray, List.map_cons, List.map_nil]); first | done | rfl | (simp only [List.length_drop, List.length_take]; rfl)) ?_; (with_reducible refine (phaetonlaw24_head.calls k  true _ A4.out).mono ?_); rintro e w17 ⟨rfl, hb⟩; refine ⟨_, rfl, ?_⟩; have n0_ := Aside0.mk (blk_below (g := gb224) (o := .cells #[.int .u16 a2_0, .int .u8 a2_1, .int .u8 a2_2, .int .u8 a2_3, .int .u8 a2_4] 43 (0, 0)) (by (with_reducible repeat (first | refine blk_drewN ?_ _ | refine blk_drew ?_ | refine blk_alloc ?_ _)); exact BK224.out) hb); have n1_ := Aside0.mk (below_step (by repeat (first | (with_reducible first | exact HB.out | apply below_alloc | apply pw_below_drewN | apply below_drew1 | refine below_set ?_ GE224.out) | exact HB.out)) hb); clear BK224; clear HB; have BK224 := n0_; have HB := n1_; clear n0_ n1_; (try clear hb); (try clear hb2); (try clear hk); (try clear hi)) | ((with_reducible refine gate_dst (N := 13) rfl ?_); (try (refine gate_guard (by rfl) ?_; dsimp only)); refine Kd.R_lit (Kd.int .u8) _ 5 ?hg (N := 13) ?hd (xs := ([] : List Int)) (inner := []) (ok := fun _ => True) (okp := fun _ => True) ?hr ?hp (fun _ hk => hk) trivial (Below.refl _ _) (Nat.le_refl _) (by simp) ?_; (case hd => rfl); (case hg => rfl); (case hr => first | (go_simp; done) | (go_simp; rfl)); (case hp => exact (Reps.none _ _)); intro v227 w18 ho19 hb hg_ hnew_; clear hg_ hnew_; (first | rw [← Ny226.out] at ho19 | (simp only [Int.reduceToNat] at ho19; rw [← Ny226.out] at ho19)); have n0_ := Aside0.mk (Kd.R_lower ho19 (below_size (by repeat (first | (with_reducible first | exact HB.out | apply below_alloc | apply pw_below_drewN | apply below_drew1 | refine below_set ?_ GE224.out) | exact HB.out)))); have n1_ := Aside0.mk (blk_below (g := gb224) (o := .cells #[.int .u16 a2_0, .int .u8 a2_1, .int .u8 a2_2, .int .u8 a2_3, .int .u8 a2_4] 43 (0, 0)) (by (with_reducible repeat (first | refine blk_drewN ?_ _ | refine blk_drew ?_ | refine blk_alloc ?_ _)); exact BK224.out) hb); have n2_ := Aside0.mk (below_step (by repeat (first | (with_reducible first | exact HB.out | apply below_alloc | apply pw_below_drewN | apply below_drew1 | refine below_set ?_ GE224.out) | exact HB.out)) hb); clear BK224; clear HB; have HO228 := n0_; have BK224 := n1_; have HB := n2_; clear n0_ n1_ n2_; clear hb ho19; obtain ⟨i020, hi020, _, hsz20, _⟩ := info_parts info5; obtain ⟨hcut20, hA20, hC20⟩ := print_take_of (P := Try.prog) (Value.int .u8) 0 22 5 .i64 Try.underlying22 hi020 hsz20 A0 c0 l0 (ji5) (of_decide_eq_true (by first | (with_reducible assumption) | assumption)) (of_decide_eq_true (by first | (with_reducible assumption) | assumption)) HC0.out; have HR229 := Aside0.mk (Kd.C_of_reads (h1 := fun _ => rfl) (hA20 _ (Kd.reads_of_C HR0.out))); have HC229 := Aside0.mk hC20; clear hA20 hC20 hi020 hsz20) | ((with_reducible refine gate_builtin (b := .append) (xs := #[.tmp 13, .tmp 18]) rfl ?_); (try (refine gate_guard (by rfl) ?_; dsimp only)); at_builtin; refine Kd.R_append_rows (Kd.int .u8) (w0 := w) w.heap.size rfl (.tmp 13) (.tmp 18) 22 5 (.int .u8 0) 1 rfl Try.underlying22 info5 rfl (by decide) (by omega) v227 y226 (l0.take ((ji5) : Int).toNat) _ _ _ (fun _ => True) (fun _ => False) rfl rfl ?aO ?aR (fun _ _ h => h) (fun _ h => h.elim) ?aF ?aB ?aS ?aL ?_; (case aR => first | (refine Eq.mp (congrArg (fun n_ => ReadsRow _ _ _ _ n_ _) (show (l0.take ((ji5) : Int).toNat).length = (ji5).toNat from (by rw [List.length_take]; have h_ : ((ji5) : Int) ≤ (l0.length : Int) := of_decide_eq_true (by first | (with_reducible assumption) | assumption); omega))) ?_; repeat (first | exact (Kd.C_below HR229.out HB.out) | (with_reducible refine Kd.C_alloc ?_ _) | (with_reducible refine Kd.C_drewN ?_ _) | (with_reducible refine Kd.C_drew ?_)); done) | (rw [← show (l0.take ((ji5) : Int).toNat).length = (ji5).toNat from (by rw [List.length_take]; have h_ : ((ji5) : Int) ≤ (l0.length : Int) := of_decide_eq_true (by first | (with_reducible assumption) | assumption); omega)]; repeat (first | exact (Kd.C_below HR229.out HB.out) | (with_reducible refine Kd.C_alloc ?_ _) | (with_reducible refine Kd.C_drewN ?_ _) | (with_reducible refine Kd.C_drew ?_))) | (repeat (first | exact (Kd.C_below HR229.out HB.out) | (with_reducible refine Kd.C_alloc ?_ _) | (with_reducible refine Kd.C_drewN ?_ _) | (with_reducible refine Kd.C_drew ?_)))); (case aB => exact (by repeat (first | (with_reducible first | exact HB.out | apply below_alloc | apply pw_below_drewN | apply below_drew1 | refine below_set ?_ GE224.out) | exact HB.out))); (case aF => exact (fun _ _ => trivial)); (case aO => exact (by (with_reducible repeat (first | apply Kd.R_alloc | apply Kd.R_drewN | apply Kd.R_drew)); exact HO228.out)); (case aS => exact (below_size (by repeat (first | (with_reducible first | exact HB.out | apply below_alloc | apply pw_below_drewN | apply below_drew1 | refine below_set ?_ GE224.out) | exact HB.out)))); (case aL => have := LMc8.out; have hlx_ := (show (l0.take ((ji5) : Int).toNat).length = (ji5).toNat from (by rw [List.length_take]; have h_ : ((ji5) : Int) ≤ (l0.length : Int) := of_decide_eq_true (by first | (with_reducible assumption) | assumption); omega)); omega); intro v231 w21 ho hb hg hat; rw [← Ny230.out] at ho; have n0_ := Aside0.mk (blk_grown (g := gb224) (o := .cells #[.int .u16 a2_0, .int .u8 a2_1, .int .u8 a2_2, .int .u8 a2_3, .int .u8 a2_4] 43 (0, 0)) (by (with_reducible repeat (first | refine blk_drewN ?_ _ | refine blk_drew ?_ | refine blk_alloc ?_ _)); exact BK224.out) hg (Kd.R_ne HO228.out BK224.out (by decide))); have n1_ := Aside0.mk (hb); have n2_ := Aside0.mk (ho); clear BK224; clear HB; clear HO228; have BK224 := n0_; have HB := n1_; have HO232 := n2_; clear n0_ n1_ n2_; clear ho hb hg hat; obtain ⟨Ao22, co22, eo22⟩ := Kd.R_slice HO232.out; subst eo22) | ((with_reducible refine gate_callee (f := 20) rfl ?_); refine goesL_ (some 22) rfl rfl Try.func20 (by kernel_rfl) rfl #[.slice Ao22 y230.length co22, .int .i64 a1] rfl (by (try simp only [List.map_toArray, List.map_cons, List.map_nil]); first | done | rfl | (simp only [List.length_drop, List.length_take]; rfl)) ?_; (with_reducible refine (image_Seal.calls k _ _ y230 a1 t233 _ ?side1 ?side2 A9.out).mono ?_); (case side1 => repeat (first | exact (Kd.R_reads' HO232.out).2.2 | (with_reducible refine Kd.C_alloc ?_ _) | (with_reducible refine Kd.C_drewN ?_ _) | (with_reducible refine Kd.C_drew ?_))); (case side2 => exact (Kd.R_reads' HO232.out).2.1); rintro e w23 ⟨rfl, hb⟩; refine ⟨_, rfl, ?_⟩; have n0_ := Aside0.mk (Kd.R_below (by (with_reducible repeat (first | apply Kd.R_alloc | apply Kd.R_drewN | apply Kd.R_drew)); exact HO232.out) hb); have n1_ := Aside0.mk (blk_below (g := gb224) (o := .cells #[.int .u16 a2_0, .int .u8 a2_1, .int .u8 a2_2, .int .u8 a2_3, .int .u8 a2_4] 43 (0, 0)) (by (with_reducible repeat (first | refine blk_drewN ?_ _ | refine blk_drew ?_ | refine blk_alloc ?_ _)); exact BK224.out) hb); have n2_ := Aside0.mk (below_step (by repeat (first | (with_reducible first | exact HB.out | apply below_alloc | apply pw_below_drewN | apply below_drew1 | refine below_set ?_ GE224.out) | exact HB.out)) hb); clear HO232; clear BK224; clear HB; have HO232 := n0_; have BK224 := n1_; have HB := n2_; clear n0_ n1_ n2_; (try clear hb); (try clear hb2); (try clear hk); (try clear hi)) | ((with_reducible refine gate_callee (f := 25) rfl ?_); refine goesL_ (some 24) rfl rfl Try.func25 (by kernel_rfl) rfl #[.int .i64 a1] rfl (by (try simp only [List.map_toArray, List.map_cons, List.map_nil]); first | done | rfl | (simp only [List.length_drop, List.length_take]; rfl)) ?_; (with_reducible refine (phaetonref24_May.calls a1 true _ A10.out).mono ?_); rintro e w' ⟨rfl, ⟨nd, rfl⟩⟩; refine ⟨_, rfl, ?_⟩) | ((with_reducible refine gate_callee (f := 21) rfl ?_); refine goesL_ (some 37) rfl rfl Try.func21 (by kernel_rfl) rfl #[.slice Ao22 y230.length co22, .int .i64 a1] rfl (by (try simp only [List.map_toArray, List.map_cons, List.map_nil]); first | done | rfl | (simp only [List.length_drop, List.length_take]; rfl)) ?_; (with_reducible refine (phaetonref24_Seal.calls k _ _ y230 a1 t235 _ ?side1 ?side2 A13.out).mono ?_); (case side1 => repeat (first | exact (Kd.R_reads' HO232.out).2.2 | (with_reducible refine Kd.C_alloc ?_ _) | (with_reducible refine Kd.C_drewN ?_ _) | (with_reducible refine Kd.C_drew ?_))); (case side2 => exact (Kd.R_reads' HO232.out).2.1); rintro e w24 ⟨rfl, hb⟩; refine ⟨_, rfl, ?_⟩; have n0_ := Aside0.mk (Kd.R_below (by (with_reducible repeat (first | apply Kd.R_alloc | apply Kd.R_drewN | apply Kd.R_drew)); exact HO232.out) hb); have n1_ := Aside0.mk (blk_below (g := gb224) (o := .cells #[.int .u16 a2_0, .int .u8 a2_1, .int .u8 a2_2, .int .u8 a2_3, .int .u8 a2_4] 43 (0, 0)) (by (with_reducible repeat (first | refine blk_drewN ?_ _ | refine blk_drew ?_ | refine blk_alloc ?_ _)); exact BK224.out) hb); have n2_ := Aside0.mk (below_step (by repeat (first | (with_reducible first | exact HB.out | apply below_alloc | apply pw_below_drewN | apply below_drew1 | refine below_set ?_ GE224.out) | exact HB.out)) hb); clear HO232; clear BK224; clear HB; have HO232 := n0_; have BK224 := n1_; have HB := n2_; clear n0_ n1_ n2_; (try clear hb); (try clear hb2); (try clear hk); (try clear hi)))
        go_ret
        exact ⟨by first | rfl | (simp [errW_none, errW_some] <;> rfl) | (simp only [← hji5]; first | rfl | (simp [errW_none, errW_some] <;> rfl)) | (simp [*, errW_none, errW_some] <;> rfl), by repeat (first | (with_reducible first | exact HB.out | apply below_alloc | apply pw_below_drewN | apply below_drew1 | refine below_set ?_ GE224.out) | exact HB.out)⟩
       ·replace c15 := Bool.eq_false_iff.mpr c15
        subst c15
        have H1 : (none) = some r := by rw [if_neg (show ¬ (false = true) by decide)] at H; exact H
        clear H
        have H := H1
        clear H1
        exact absurd H (by simp)
      ·rw [if_neg c14] at H
       exact absurd H (by simp)
     ·rw [if_neg c12] at H
      have c12b0 : ((y230.length : Int) == 0) = false := beq_eq_false_iff_ne.mpr c12
      have c12b1 : ((y230.length : Int) != 0) = true := bne_iff_ne.mpr c12
      have c12b2 : ¬ (y230 = []) := fun h_ => c12 (by rw [h_]; rfl)
      obtain ⟨y236, hy236⟩ : ∃ y_ : List Int, y_ = (([] : List Int)) := ⟨_, rfl⟩
      replace H : (if y236.length + y230.length < 140737488355328 then ((some (y236 ++ y230 : List Int)).bind fun y239 => (if (y239.length : Int) = 0 then (none) else (phaetonlaw24_ImageSeal.l0 k y230 a1 t225 t233 y239 (Int.tmod (wrap64 (a2_0)) (y239.length : Int)) 0 a2_0 a2_1 a2_2 a2_3 a2_4))) else (none)) = some r := by first | (rw [hy236]; with_reducible exact H) | (have H2_ := (Option.bind_some _ _).symm.trans H; rw [hy236]; with_reducible exact H2_) | (have H2_ := (Option.bind_some _ _).symm.trans H; with_reducible exact H2_) | with_reducible exact H | (rw [hy236]; exact H) | exact H
      have Ny236 := Aside0.mk hy236
      clear hy236
      by_cases c25 : y236.length + y230.length < 140737488355328
      ·rw [if_pos c25] at H
       have LMc25 := Aside0.mk c25
       clear c25
       obtain ⟨y239, hy239⟩ : ∃ y_ : List Int, y_ = (y236 ++ y230) := ⟨_, rfl⟩
       replace H : (if (y239.length : Int) = 0 then (none) else (phaetonlaw24_ImageSeal.l0 k y230 a1 t225 t233 y239 (Int.tmod (wrap64 (a2_0)) (y239.length : Int)) 0 a2_0 a2_1 a2_2 a2_3 a2_4)) = some r := by first | (rw [hy239]; with_reducible exact H) | (have H2_ := (Option.bind_some _ _).symm.trans H; rw [hy239]; with_reducible exact H2_) | (have H2_ := (Option.bind_some _ _).symm.trans H; with_reducible exact H2_) | with_reducible exact H | (rw [hy239]; exact H) | exact H
       have Ny239 := Aside0.mk hy239
       clear hy239
       by_cases c26 : (y239.length : Int) = 0
       ·rw [if_pos c26] at H
        exact absurd H (by simp)
       ·rw [if_neg c26] at H
        have c26b0 : ((y239.length : Int) == 0) = false := beq_eq_false_iff_ne.mpr c26
        have c26b1 : ((y239.length : Int) != 0) = true := bne_iff_ne.mpr c26
        have c26b2 : ¬ (y239 = []) := fun h_ => c26 (by rw [h_]; rfl)
        have H' := Aside0.mk H
        clear H
        go_enter Try.func7, Try.ntmps7
        (try simp only [List.append])
        go_wp2_with (first | ((with_reducible refine gate_store (t := 43) (p := 5) rfl ?_); refine HW.store_box5 rfl rfl 43 _ _ rfl rfl rfl BK224.out rfl (by kernel_rfl) rfl rfl rfl rfl rfl ?_; intro w1_ hw1_ hk1_; subst hw1_; have hcb224_0 := (blk_cell hk1_ 0).trans rfl; have hfb224_0 := blk_frozen hk1_ 0; have hcb224_1 := (blk_cell hk1_ 1).trans rfl; have hfb224_1 := blk_frozen hk1_ 1; have hcb224_2 := (blk_cell hk1_ 2).trans rfl; have hfb224_2 := blk_frozen hk1_ 2; have hcb224_3 := (blk_cell hk1_ 3).trans rfl; have hfb224_3 := blk_frozen hk1_ 3; have hcb224_4 := (blk_cell hk1_ 4).trans rfl; have hfb224_4 := blk_frozen hk1_ 4; clear hk1_) | ((with_reducible refine gate_dst (N := 5) rfl ?_); (try (refine gate_guard (by rfl) ?_; dsimp only)); refine box_event ?hg (N := 5) ?hd (cs := #[.int .u16 a2_0, .int .u8 a2_1, .int .u8 a2_2, .int .u8 a2_3, .int .u8 a2_4]) (t := 43) ?hr ?_; (case hd => rfl); (case hg => rfl); (case hr => first | (go_simp; done) | (go_simp; rfl)); intro gb224 hg w27 hbox hb; have n0_ := Aside0.mk (below_step (by repeat (first | (with_reducible first | exact HB.out | apply below_alloc | apply pw_below_drewN | apply below_drew1) | exact HB.out)) hb); have n1_ := Aside0.mk (hbox); have n2_ := Aside0.mk ((by rw [hg]; exact (below_size (by repeat (first | (with_reducible first | exact HB.out | apply below_alloc | apply pw_below_drewN | apply below_drew1) | exact HB.out))) : w.heap.size ≤ gb224)); have n3_ := Aside0.mk ((by rw [hg]; exact (below_size (by repeat (first | (with_reducible first | exact HB.out | apply below_alloc | apply pw_below_drewN | apply below_drew1) | exact HB.out))) : w.heap.size ≤ gb224)); clear HB; have HB := n0_; have BK224 := n1_; have GW224 := n2_; have GE224 := n3_; clear n0_ n1_ n2_ n3_; clear hb hbox hg) | ((with_reducible refine gate_callee (f := 11) rfl ?_); refine goesL_ (some 12) rfl rfl Try.func11 (by kernel_rfl) rfl #[] rfl (by (try simp only [List.map_toArray, List.map_cons, List.map_nil]); first | done | rfl | (simp only [List.length_drop, List.length_take]; rfl)) ?_; (with_reducible refine (phaetonlaw24_head.calls k  t225 _ A4.out).mono ?_); rintro e w28 ⟨rfl, hb⟩; refine ⟨_, rfl, ?_⟩; have n0_ := Aside0.mk (blk_below (g := gb224) (o := .cells #[.int .u16 a2_0, .int .u8 a2_1, .int .u8 a2_2, .int .u8 a2_3, .int .u8 a2_4] 43 (0, 0)) (by (with_reducible repeat (first | refine blk_drewN ?_ _ | refine blk_drew ?_ | refine blk_alloc ?_ _)); exact BK224.out) hb); have n1_ := Aside0.mk (below_step (by repeat (first | (with_reducible first | exact HB.out | apply below_alloc | apply pw_below_drewN | apply below_drew1 | refine below_set ?_ GE224.out) | exact HB.out)) hb); clear BK224; clear HB; have BK224 := n0_; have HB := n1_; clear n0_ n1_; (try clear hb); (try clear hb2); (try clear hk); (try clear hi)) | ((with_reducible refine gate_dst (N := 13) rfl ?_); (try (refine gate_guard (by rfl) ?_; dsimp only)); refine Kd.R_lit (Kd.int .u8) _ 5 ?hg (N := 13) ?hd (xs := ([] : List Int)) (inner := []) (ok := fun _ => True) (okp := fun _ => True) ?hr ?hp (fun _ hk => hk) trivial (Below.refl _ _) (Nat.le_refl _) (by simp) ?_; (case hd => rfl); (case hg => rfl); (case hr => first | (go_simp; done) | (go_simp; rfl)); (case hp => exact (Reps.none _ _)); intro v227 w29 ho30 hb hg_ hnew_; clear hg_ hnew_; (first | rw [← Ny226.out] at ho30 | (simp only [Int.reduceToNat] at ho30; rw [← Ny226.out] at ho30)); have n0_ := Aside0.mk (Kd.R_lower ho30 (below_size (by repeat (first | (with_reducible first | exact HB.out | apply below_alloc | apply pw_below_drewN | apply below_drew1 | refine below_set ?_ GE224.out) | exact HB.out)))); have n1_ := Aside0.mk (blk_below (g := gb224) (o := .cells #[.int .u16 a2_0, .int .u8 a2_1, .int .u8 a2_2, .int .u8 a2_3, .int .u8 a2_4] 43 (0, 0)) (by (with_reducible repeat (first | refine blk_drewN ?_ _ | refine blk_drew ?_ | refine blk_alloc ?_ _)); exact BK224.out) hb); have n2_ := Aside0.mk (below_step (by repeat (first | (with_reducible first | exact HB.out | apply below_alloc | apply pw_below_drewN | apply below_drew1 | refine below_set ?_ GE224.out) | exact HB.out)) hb); clear BK224; clear HB; have HO228 := n0_; have BK224 := n1_; have HB := n2_; clear n0_ n1_ n2_; clear hb ho30; obtain ⟨i031, hi031, _, hsz31, _⟩ := info_parts info5; obtain ⟨hcut31, hA31, hC31⟩ := print_take_of (P := Try.prog) (Value.int .u8) 0 22 5 .i64 Try.underlying22 hi031 hsz31 A0 c0 l0 (ji5) (of_decide_eq_true (by first | (with_reducible assumption) | assumption)) (of_decide_eq_true (by first | (with_reducible assumption) | assumption)) HC0.out; have HR229 := Aside0.mk (Kd.C_of_reads (h1 := fun _ => rfl) (hA31 _ (Kd.reads_of_C HR0.out))); have HC229 := Aside0.mk hC31; clear hA31 hC31 hi031 hsz31) | ((with_reducible refine gate_builtin (b := .append) (xs := #[.tmp 13, .tmp 18]) rfl ?_); (try (refine gate_guard (by rfl) ?_; dsimp only)); at_builtin; refine Kd.R_append_rows (Kd.int .u8) (w0 := w) w.heap.size rfl (.tmp 13) (.tmp 18) 22 5 (.int .u8 0) 1 rfl Try.underlying22 info5 rfl (by decide) (by omega) v227 y226 (l0.take ((ji5) : Int).toNat) _ _ _ (fun _ => True) (fun _ => False) rfl rfl ?aO ?aR (fun _ _ h => h) (fun _ h => h.elim) ?aF ?aB ?aS ?aL ?_; (case aR => first | (refine Eq.mp (congrArg (fun n_ => ReadsRow _ _ _ _ n_ _) (show (l0.take ((ji5) : Int).toNat).length = (ji5).toNat from (by rw [List.length_take]; have h_ : ((ji5) : Int) ≤ (l0.length : Int) := of_decide_eq_true (by first | (with_reducible assumption) | assumption); omega))) ?_; repeat (first | exact (Kd.C_below HR229.out HB.out) | (with_reducible refine Kd.C_alloc ?_ _) | (with_reducible refine Kd.C_drewN ?_ _) | (with_reducible refine Kd.C_drew ?_)); done) | (rw [← show (l0.take ((ji5) : Int).toNat).length = (ji5).toNat from (by rw [List.length_take]; have h_ : ((ji5) : Int) ≤ (l0.length : Int) := of_decide_eq_true (by first | (with_reducible assumption) | assumption); omega)]; repeat (first | exact (Kd.C_below HR229.out HB.out) | (with_reducible refine Kd.C_alloc ?_ _) | (with_reducible refine Kd.C_drewN ?_ _) | (with_reducible refine Kd.C_drew ?_))) | (repeat (first | exact (Kd.C_below HR229.out HB.out) | (with_reducible refine Kd.C_alloc ?_ _) | (with_reducible refine Kd.C_drewN ?_ _) | (with_reducible refine Kd.C_drew ?_)))); (case aB => exact (by repeat (first | (with_reducible first | exact HB.out | apply below_alloc | apply pw_below_drewN | apply below_drew1 | refine below_set ?_ GE224.out) | exact HB.out))); (case aF => exact (fun _ _ => trivial)); (case aO => exact (by (with_reducible repeat (first | apply Kd.R_alloc | apply Kd.R_drewN | apply Kd.R_drew)); exact HO228.out)); (case aS => exact (below_size (by repeat (first | (with_reducible first | exact HB.out | apply below_alloc | apply pw_below_drewN | apply below_drew1 | refine below_set ?_ GE224.out) | exact HB.out)))); (case aL => have := LMc8.out; have hlx_ := (show (l0.take ((ji5) : Int).toNat).length = (ji5).toNat from (by rw [List.length_take]; have h_ : ((ji5) : Int) ≤ (l0.length : Int) := of_decide_eq_true (by first | (with_reducible assumption) | assumption); omega)); omega); intro v231 w32 ho hb hg hat; rw [← Ny230.out] at ho; have n0_ := Aside0.mk (blk_grown (g := gb224) (o := .cells #[.int .u16 a2_0, .int .u8 a2_1, .int .u8 a2_2, .int .u8 a2_3, .int .u8 a2_4] 43 (0, 0)) (by (with_reducible repeat (first | refine blk_drewN ?_ _ | refine blk_drew ?_ | refine blk_alloc ?_ _)); exact BK224.out) hg (Kd.R_ne HO228.out BK224.out (by decide))); have n1_ := Aside0.mk (hb); have n2_ := Aside0.mk (ho); clear BK224; clear HB; clear HO228; have BK224 := n0_; have HB := n1_; have HO232 := n2_; clear n0_ n1_ n2_; clear ho hb hg hat; obtain ⟨Ao33, co33, eo33⟩ := Kd.R_slice HO232.out; subst eo33) | ((with_reducible refine gate_callee (f := 20) rfl ?_); refine goesL_ (some 22) rfl rfl Try.func20 (by kernel_rfl) rfl #[.slice Ao33 y230.length co33, .int .i64 a1] rfl (by (try simp only [List.map_toArray, List.map_cons, List.map_nil]); first | done | rfl | (simp only [List.length_drop, List.length_take]; rfl)) ?_; (with_reducible refine (image_Seal.calls k _ _ y230 a1 t233 _ ?side1 ?side2 A9.out).mono ?_); (case side1 => repeat (first | exact (Kd.R_reads' HO232.out).2.2 | (with_reducible refine Kd.C_alloc ?_ _) | (with_reducible refine Kd.C_drewN ?_ _) | (with_reducible refine Kd.C_drew ?_))); (case side2 => exact (Kd.R_reads' HO232.out).2.1); rintro e w34 ⟨rfl, hb⟩; refine ⟨_, rfl, ?_⟩; have n0_ := Aside0.mk (Kd.R_below (by (with_reducible repeat (first | apply Kd.R_alloc | apply Kd.R_drewN | apply Kd.R_drew)); exact HO232.out) hb); have n1_ := Aside0.mk (blk_below (g := gb224) (o := .cells #[.int .u16 a2_0, .int .u8 a2_1, .int .u8 a2_2, .int .u8 a2_3, .int .u8 a2_4] 43 (0, 0)) (by (with_reducible repeat (first | refine blk_drewN ?_ _ | refine blk_drew ?_ | refine blk_alloc ?_ _)); exact BK224.out) hb); have n2_ := Aside0.mk (below_step (by repeat (first | (with_reducible first | exact HB.out | apply below_alloc | apply pw_below_drewN | apply below_drew1 | refine below_set ?_ GE224.out) | exact HB.out)) hb); clear HO232; clear BK224; clear HB; have HO232 := n0_; have BK224 := n1_; have HB := n2_; clear n0_ n1_ n2_; (try clear hb); (try clear hb2); (try clear hk); (try clear hi)) | ((with_reducible refine gate_callee (f := 25) rfl ?_); refine goesL_ (some 24) rfl rfl Try.func25 (by kernel_rfl) rfl #[.int .i64 a1] rfl (by (try simp only [List.map_toArray, List.map_cons, List.map_nil]); first | done | rfl | (simp only [List.length_drop, List.length_take]; rfl)) ?_; (with_reducible refine (phaetonref24_May.calls a1 true _ A10.out).mono ?_); rintro e w' ⟨rfl, ⟨nd, rfl⟩⟩; refine ⟨_, rfl, ?_⟩) | ((with_reducible refine gate_dst (N := 42) rfl ?_); (try (refine gate_guard (by rfl) ?_; dsimp only)); refine Kd.R_lit (Kd.int .u8) _ 5 ?hg (N := 42) ?hd (xs := ([] : List Int)) (inner := []) (ok := fun _ => True) (okp := fun _ => True) ?hr ?hp (fun _ hk => hk) trivial (Below.refl _ _) (Nat.le_refl _) (by simp) ?_; (case hd => rfl); (case hg => rfl); (case hr => first | (go_simp; done) | (go_simp; rfl)); (case hp => exact (Reps.none _ _)); intro v237 w35 ho36 hb hg_ hnew_; clear hg_ hnew_; (first | rw [← Ny236.out] at ho36 | (simp only [Int.reduceToNat] at ho36; rw [← Ny236.out] at ho36)); have n0_ := Aside0.mk (Kd.R_elder' (by (with_reducible repeat (first | apply Kd.R_alloc | apply Kd.R_drewN | apply Kd.R_drew)); exact HO232.out) (Kd.R_base ho36) hb); have n1_ := Aside0.mk (Kd.R_lower (Kd.R_new' ho36 (Kd.R_lt (by (with_reducible repeat (first | apply Kd.R_alloc | apply Kd.R_drewN | apply Kd.R_drew)); exact HO232.out))) (below_size (by repeat (first | (with_reducible first | exact HB.out | apply below_alloc | apply pw_below_drewN | apply below_drew1 | refine below_set ?_ GE224.out) | exact HB.out)))); have n2_ := Aside0.mk (blk_below (g := gb224) (o := .cells #[.int .u16 a2_0, .int .u8 a2_1, .int .u8 a2_2, .int .u8 a2_3, .int .u8 a2_4] 43 (0, 0)) (by (with_reducible repeat (first | refine blk_drewN ?_ _ | refine blk_drew ?_ | refine blk_alloc ?_ _)); exact BK224.out) hb); have n3_ := Aside0.mk (below_step (by repeat (first | (with_reducible first | exact HB.out | apply below_alloc | apply pw_below_drewN | apply below_drew1 | refine below_set ?_ GE224.out) | exact HB.out)) hb); clear HO232; clear BK224; clear HB; have HO232 := n0_; have HO238 := n1_; have BK224 := n2_; have HB := n3_; clear n0_ n1_ n2_ n3_; clear hb ho36) | ((with_reducible refine gate_builtin (b := .append) (xs := #[.tmp 42, .tmp 43]) rfl ?_); (try (refine gate_guard (by rfl) ?_; dsimp only)); at_builtin; refine Kd.R_append_rows (Kd.int .u8) (w0 := w) w.heap.size rfl (.tmp 42) (.tmp 43) 22 5 (.int .u8 0) 1 rfl Try.underlying22 info5 rfl (by decide) (by omega) v237 y236 y230 _ _ _ (fun k_ => some k_ ≠ (.slice Ao33 y230.length co33 : Value).ownBlock) (fun _ => False) rfl rfl ?aO ?aR (fun _ _ h => h) (fun _ h => h.elim) ?aF ?aB ?aS ?aL ?_; (case aR => repeat (first | exact (Kd.R_reads' HO232.out).2.2 | (with_reducible refine Kd.C_alloc ?_ _) | (with_reducible refine Kd.C_drewN ?_ _) | (with_reducible refine Kd.C_drew ?_))); (case aB => exact (by repeat (first | (with_reducible first | exact HB.out | apply below_alloc | apply pw_below_drewN | apply below_drew1 | refine below_set ?_ GE224.out) | exact HB.out))); (case aF => exact (fun k_ hk => Kd.fresh' (Kd.R_lt (by (with_reducible repeat (first | apply Kd.R_alloc | apply Kd.R_drewN | apply Kd.R_drew)); exact HO232.out)) k_ hk)); (case aO => exact (by (with_reducible repeat (first | apply Kd.R_alloc | apply Kd.R_drewN | apply Kd.R_drew)); exact Kd.R_mono HO238.out (fun _ hk => hk.2))); (case aS => exact (below_size (by repeat (first | (with_reducible first | exact HB.out | apply below_alloc | apply pw_below_drewN | apply below_drew1 | refine below_set ?_ GE224.out) | exact HB.out)))); (case aL => have := LMc25.out; omega); intro v240 w37 ho hb hg hat; rw [← Ny239.out] at ho; have n0_ := Aside0.mk (blk_grown (g := gb224) (o := .cells #[.int .u16 a2_0, .int .u8 a2_1, .int .u8 a2_2, .int .u8 a2_3, .int .u8 a2_4] 43 (0, 0)) (by (with_reducible repeat (first | refine blk_drewN ?_ _ | refine blk_drew ?_ | refine blk_alloc ?_ _)); exact BK224.out) hg (Kd.R_ne HO238.out BK224.out (by decide))); have n1_ := Aside0.mk (Kd.R_after (ok := (fun _ => True)) (by (with_reducible repeat (first | apply Kd.R_alloc | apply Kd.R_drewN | apply Kd.R_drew)); exact HO232.out) hg hat); have n2_ := Aside0.mk (hb); have n3_ := Aside0.mk (ho); clear BK224; clear HO232; clear HB; clear HO238; have BK224 := n0_; have HO232 := n1_; have HB := n2_; have HO241 := n3_; clear n0_ n1_ n2_ n3_; clear ho hb hg hat; have hcz38_0 : w37.cell? ⟨gb224, 0, none⟩ = some (.int .u16 a2_0) := (blk_cell BK224.out 0).trans rfl; have hcz38_1 : w37.cell? ⟨gb224, 1, none⟩ = some (.int .u8 a2_1) := (blk_cell BK224.out 1).trans rfl; have hcz38_2 : w37.cell? ⟨gb224, 2, none⟩ = some (.int .u8 a2_2) := (blk_cell BK224.out 2).trans rfl; have hcz38_3 : w37.cell? ⟨gb224, 3, none⟩ = some (.int .u8 a2_3) := (blk_cell BK224.out 3).trans rfl; have hcz38_4 : w37.cell? ⟨gb224, 4, none⟩ = some (.int .u8 a2_4) := (blk_cell BK224.out 4).trans rfl; have hfz38_0 := blk_frozen BK224.out 0; have hfz38_1 := blk_frozen BK224.out 1; have hfz38_2 := blk_frozen BK224.out 2; have hfz38_3 := blk_frozen BK224.out 3; have hfz38_4 := blk_frozen BK224.out 4; obtain ⟨Ao39, co39, eo39⟩ := Kd.R_slice HO241.out; subst eo39))
        go_loopg [11] k (fun kq v11 w' => ∃ (x9_1 : List Int) (x11_1 : Int), v11 = .int .i64 x11_1 ∧ Aside0 (phaetonlaw24_ImageSeal.l0 kq y230 a1 t225 t233 x9_1 (Int.tmod (wrap64 (a2_0)) (y239.length : Int)) x11_1 a2_0 a2_1 a2_2 a2_3 a2_4 = some r) ∧ Aside0 (kq ≤ k) ∧ Aside0 (Kd.R (Kd.int .u8) 5 w' w.heap.size (fun k_ => some k_ ≠ ((.slice Ao39 y239.length co39) : Value).ownBlock) (.slice Ao33 y230.length co33) y230) ∧ Aside0 (Kd.R (Kd.int .u8) 5 w' w.heap.size (fun k_ => some k_ ≠ ((.slice Ao33 y230.length co33) : Value).ownBlock) (.slice Ao39 y239.length co39) x9_1) ∧ Aside0 (w'.heap[gb224]? = some (.cells #[.int .u16 a2_0, .int .u8 a2_1, .int .u8 a2_2, .int .u8 a2_3, .int .u8 a2_4] 43 (0, 0))) ∧ Aside0 (Below w.heap.size w w') ∧ Aside0 (0 ≤ x11_1))
        case atStart => exact ⟨(y239), (0), (by first | rfl | (simp; done) | (simp [*]; done)), H', ⟨Nat.le_refl _⟩, ⟨by (with_reducible repeat (first | apply Kd.R_alloc | apply Kd.R_drewN | apply Kd.R_drew)); exact Kd.R_mono HO232.out (fun _ hk => hk.2)⟩, ⟨by (with_reducible repeat (first | apply Kd.R_alloc | apply Kd.R_drewN | apply Kd.R_drew)); exact HO241.out⟩, ⟨by (with_reducible repeat (first | refine blk_drewN ?_ _ | refine blk_drew ?_ | refine blk_alloc ?_ _)); exact BK224.out⟩, ⟨by repeat (first | (with_reducible first | exact HB.out | apply below_alloc | apply pw_below_drewN | apply below_drew1 | refine below_set ?_ GE224.out) | exact HB.out)⟩, ⟨by decide⟩⟩
        case round =>
         clear H'
         try clear c1
         try clear c2
         try clear p2
         try clear c6
         try clear c6b0
         try clear c6b1
         try clear p6
         try clear c7
         try clear c7b0
         try clear c7b1
         try clear c8
         try clear c11
         try clear c12
         try clear c12b0
         try clear c12b1
         try clear c12b2
         try clear c14
         try clear c14b0
         try clear c14b1
         try clear c15
         try clear c20
         try clear c21
         try clear c25
         try clear c26
         try clear c26b0
         try clear c26b1
         try clear c26b2
         try clear hcz38_0
         try clear hcz38_1
         try clear hcz38_2
         try clear hcz38_3
         try clear hcz38_4
         try clear hfz38_0
         try clear hfz38_1
         try clear hfz38_2
         try clear hfz38_3
         try clear hfz38_4
         obtain ⟨x9_1, x11_1, rfl, HA, HK1, HO_0, HO_9, BK224, HB, HI0_⟩ := hrel
         have hl9_1 := (Kd.R_reads' HO_9.out).1
         rw [hl9_1] at HO_9
         (try simp only [hl9_1])
         (try simp only [hl9_1] at BK224)
         (try simp only [hl9_1] at HO_0)
         cases gk with
         | zero => exact absurd HA.out (by simp [phaetonlaw24_ImageSeal.l0])
         | succ k1 =>
          have H := HA.out
          clear HA
          simp only [phaetonlaw24_ImageSeal.l0] at H
          by_cases c40 : x11_1 < 4
          ·rw [if_pos c40] at H
           have c40b0 : decide (x11_1 < 4) = true := decide_eq_true c40
           clear c40
           by_cases c41 : (wrap64 ((Int.tmod (wrap64 (a2_0)) (y239.length : Int)) + x11_1)) < (x9_1.length : Int)
           ·rw [if_pos c41] at H
            have c41b0 : decide ((wrap64 ((Int.tmod (wrap64 (a2_0)) (y239.length : Int)) + x11_1)) < (x9_1.length : Int)) = true := decide_eq_true c41
            clear c41
            obtain ⟨ji42, hji42⟩ : ∃ j_ : Int, (wrap64 ((Int.tmod (wrap64 (a2_0)) (y239.length : Int)) + x11_1)) = j_ := ⟨_, rfl⟩
            replace H : (if 0 ≤ (ji42) then (phaetonlaw24_ImageSeal.l0 k1 y230 a1 t225 t233 (x9_1.set ((ji42) : Int).toNat (Go.bits .xor .u8 (rd x9_1 (ji42)) (HW.pick4 a2_1 a2_2 a2_3 a2_4 x11_1))) (Int.tmod (wrap64 (a2_0)) (y239.length : Int)) (wrap64 (x11_1 + 1)) a2_0 a2_1 a2_2 a2_3 a2_4) else (none)) = some r := by first | (rw [hji42] at H; exact H) | (simp only [hji42] at H ⊢; exact H)
            (try rw [hji42] at c41b0)
            have hji42w : (IntKind.i64.wrap ((Int.tmod (wrap64 (a2_0)) (y239.length : Int)) + x11_1)) = ji42 := (i64_w _).trans hji42
            (try simp only [hl9_1] at hji42w)
            by_cases c43 : 0 ≤ (ji42)
            ·rw [if_pos c43] at H
             have c43b0 : decide (0 ≤ (ji42)) = true := decide_eq_true c43
             clear c43
             obtain ⟨y243, hy243⟩ : ∃ y_ : List Int, y_ = (x9_1.set ((ji42) : Int).toNat (Go.bits .xor .u8 (rd x9_1 (ji42)) (HW.pick4 a2_1 a2_2 a2_3 a2_4 x11_1))) := ⟨_, rfl⟩
             replace H : (phaetonlaw24_ImageSeal.l0 k1 y230 a1 t225 t233 y243 (Int.tmod (wrap64 (a2_0)) (y239.length : Int)) (wrap64 (x11_1 + 1)) a2_0 a2_1 a2_2 a2_3 a2_4) = some r := by first | (rw [hy243]; with_reducible exact H) | (have H2_ := (Option.bind_some _ _).symm.trans H; rw [hy243]; with_reducible exact H2_) | (have H2_ := (Option.bind_some _ _).symm.trans H; with_reducible exact H2_) | with_reducible exact H | (rw [hy243]; exact H) | exact H
             have Ny243 := Aside0.mk hy243
             clear hy243
             have H' := Aside0.mk H
             clear H
             try go_wp2
             have n0_ := Aside0.mk (Kd.R_drew HO_0.out)
             have n1_ := Aside0.mk (Kd.R_drew HO_9.out)
             have n2_ := Aside0.mk (blk_drew BK224.out)
             have n3_ := Aside0.mk (below_drew1 HB.out)
             clear HO_0
             clear HO_9
             clear BK224
             clear HB
             have HO_0 := n0_
             have HO_9 := n1_
             have BK224 := n2_
             have HB := n3_
             clear n0_ n1_ n2_ n3_
             have p242 : 0 ≤ ((ji42) : Int) := of_decide_eq_true (by first | (with_reducible assumption) | assumption)
             have q242 : (ji42) < (x9_1.length : Int) := of_decide_eq_true (by first | (with_reducible assumption) | assumption)
             obtain ⟨ad242, e242, hx242_0⟩ := Kd.at_int (Kd.R_reads' HO_9.out).2.2 (ji42) p242 q242
             cases e242
             replace p242 := eq_true p242
             replace q242 := eq_true q242
             have p44 : 0 ≤ ((ji42) : Int) := of_decide_eq_true (by first | (with_reducible assumption) | assumption)
             have q44 : ((ji42) : Int) < ((x9_1.length : Int) : Int) := of_decide_eq_true (by first | (with_reducible assumption) | assumption)
             obtain ⟨go44, co44, eo44, gb44, gl44, cl44, HG44⟩ := Kd.R_form HO_9.out (by omega)
             (first | cases eo44 | (injection eo44 with ea_ en_ ec_; (first | subst ea_ | (injection ea_ with ea_; subst ea_)); subst ec_; clear en_))
             have GB44 := Aside0.mk gb44
             have GG44 := Aside0.mk HG44
             clear gb44 gl44 HG44
             (first | simp only [add_plain] at hx242_0 | skip)
             obtain ⟨hx44_0, hf44_0⟩ := Kd.R_celln 0 HO_9.out ((ji42) : Int) p44 q44
             replace p44 := eq_true p44
             replace q44 := eq_true q44
             have HP46 := Kd.R_putn HO_9.out ((ji42) : Int) (Go.bits .xor .u8 (rd x9_1 (ji42)) (HW.pick4 a2_1 a2_2 a2_3 a2_4 x11_1))
             rw [← Ny243.out] at HP46
             have HQ46 := Aside0.mk HP46
             clear HP46
             have hi4_ : x11_1 < 4 := of_decide_eq_true (by first | (with_reducible assumption) | assumption)
             have hi0_ : (0 ≤ x11_1) = True := eq_true HI0_.out
             have hi5_ : (x11_1 < 4) = True := eq_true hi4_
             refine start_ (n := 17) (S := fun w' => w'.cell? ⟨gb224, 0, none⟩ = some (.int .u16 a2_0) ∧ w'.cell? ⟨gb224, 1, none⟩ = some (.int .u8 a2_1) ∧ w'.cell? ⟨gb224, 2, none⟩ = some (.int .u8 a2_2) ∧ w'.cell? ⟨gb224, 3, none⟩ = some (.int .u8 a2_3) ∧ w'.cell? ⟨gb224, 4, none⟩ = some (.int .u8 a2_4) ∧ w'.cell? ⟨go44, ((ji42)).toNat, none⟩ = some (.int .u8 (rd x9_1 (ji42))) ∧ w'.cell? ⟨gb224, 1 + (x11_1).toNat, none⟩ = some (.int .u8 (HW.pick4 a2_1 a2_2 a2_3 a2_4 x11_1))) (ds := [16]) #[false, false, false, false, false, false, false, false, false, false, false, false, false, false, false, false, false] (by kernel_rfl) rfl rfl ⟨(blk_cell BK224.out 0).trans rfl, (blk_cell BK224.out 1).trans rfl, (blk_cell BK224.out 2).trans rfl, (blk_cell BK224.out 3).trans rfl, (blk_cell BK224.out 4).trans rfl, hx242_0, HW.pick4_cell BK224.out HI0_.out hi4_⟩ (fun hHeld => ?_); refine with_tabW phaetonlaw24_ImageSeal.tab13 phaetonlaw24_ImageSeal.bits13 (fun HT_ HW_ => ?_)
             generalize wr.drew = w45 at HO_0 HO_9 BK224 HB GG44 HQ46 hf44_0 hx242_0 hx44_0 hHeld ⊢
             refine pure_ (i := 0) (N := some 63) (v := ?_) (a' := ?_) #[true, false, false, false, false, false, false, false, false, false, false, false, false, false, false, false, false] rfl rfl (any_of HT_.out (by kernel_rfl)) (fun _ _ _ h => h) (Or.inl ⟨by rfl, ?_⟩) ?_ ?_
             rotate_left
             ·intro w'
              go_simp
              with_reducible rfl
             rotate_left
             ·simp only [Act.put, HW.LA, HW.LZ, HW.LS, i64_w, i32_w]
              rfl
             refine pure_ (i := 1) (N := some 64) (v := ?_) (a' := ?_) #[true, true, false, false, false, false, false, false, false, false, false, false, false, false, false, false, false] rfl rfl (any_of HT_.out (by kernel_rfl)) (fun _ _ _ h => h) (Or.inl ⟨by rfl, ?_⟩) ?_ ?_
             rotate_left
             ·intro w'
              go_simp
              with_reducible rfl
             rotate_left
             ·simp only [Act.put, HW.LA, HW.LZ, HW.LS, i64_w, i32_w]
              rfl
             refine pure_ (i := 2) (N := some 65) (v := ?_) (a' := ?_) #[true, true, true, false, false, false, false, false, false, false, false, false, false, false, false, false, false] rfl rfl (any_of HT_.out (by kernel_rfl)) (fun _ _ _ h => h) (Or.inl ⟨by rfl, ?_⟩) ?_ ?_
             rotate_left
             ·intro w'
              go_simp
              with_reducible rfl
             rotate_left
             ·simp only [Act.put, HW.LA, HW.LZ, HW.LS, i64_w, i32_w]
              rfl
             refine pure_ (i := 3) (N := some 66) (v := ?_) (a' := ?_) #[true, true, true, true, false, false, false, false, false, false, false, false, false, false, false, false, false] rfl rfl (any_of HT_.out (by kernel_rfl)) (fun _ _ _ h => h) (Or.inl ⟨by rfl, ?_⟩) ?_ ?_
             rotate_left
             ·intro w'
              go_simp
              with_reducible rfl
             rotate_left
             ·simp only [Act.put, HW.LA, HW.LZ, HW.LS, i64_w, i32_w]
              rfl
             refine pure_ (i := 4) (N := some 67) (v := ?_) (a' := ?_) #[true, true, true, true, true, false, false, false, false, false, false, false, false, false, false, false, false] rfl rfl (any_of HT_.out (by kernel_rfl)) (fun _ _ _ h => h) (Or.inl ⟨by rfl, ?_⟩) ?_ ?_
             rotate_left
             ·intro w'
              go_simp
              with_reducible rfl
             rotate_left
             ·simp only [Act.put, HW.LA, HW.LZ, HW.LS, i64_w, i32_w]
              rfl
             refine pure_ (i := 5) (N := some 68) (v := ?_) (a' := ?_) #[true, true, true, true, true, true, false, false, false, false, false, false, false, false, false, false, false] rfl rfl (any_of HT_.out (by kernel_rfl)) (fun _ _ _ h => h) (Or.inl ⟨by rfl, ?_⟩) ?_ ?_
             rotate_left
             ·intro w'
              go_simp
              with_reducible rfl
             rotate_left
             ·simp only [Act.put, HW.LA, HW.LZ, HW.LS, i64_w, i32_w]
              rfl
             refine pure_ (i := 6) (N := some 69) (v := ?_) (a' := ?_) #[true, true, true, true, true, true, true, false, false, false, false, false, false, false, false, false, false] rfl rfl (any_of HT_.out (by kernel_rfl)) (fun _ _ _ h => h) (Or.inl ⟨by rfl, ?_⟩) ?_ ?_
             rotate_left
             ·intro w'
              go_simp
              with_reducible rfl
             rotate_left
             ·simp only [Act.put, HW.LA, HW.LZ, HW.LS, i64_w, i32_w]
              rfl
             refine pure_ (i := 7) (N := some 70) (v := ?_) (a' := ?_) #[true, true, true, true, true, true, true, true, false, false, false, false, false, false, false, false, false] rfl rfl (any_of HT_.out (by kernel_rfl)) (fun _ _ _ h => h) (Or.inl ⟨by rfl, ?_⟩) ?_ ?_
             rotate_left
             ·intro w'
              go_simp
              with_reducible rfl
             rotate_left
             ·simp only [Act.put, HW.LA, HW.LZ, HW.LS, i64_w, i32_w]
              rfl
             refine pure_ (i := 8) (N := some 71) (v := ?_) (a' := ?_) #[true, true, true, true, true, true, true, true, true, false, false, false, false, false, false, false, false] rfl rfl (any_of HT_.out (by kernel_rfl)) (fun _ _ _ h => h) (Or.inl ⟨by rfl, ?_⟩) ?_ ?_
             rotate_left
             ·intro w'
              go_simp
              with_reducible rfl
             rotate_left
             ·simp only [Act.put, HW.LA, HW.LZ, HW.LS, i64_w, i32_w]
              rfl
             refine pure_ (i := 10) (N := some 73) (v := ?_) (a' := ?_) #[true, true, true, true, true, true, true, true, true, false, true, false, false, false, false, false, false] rfl rfl (any_of HT_.out (by kernel_rfl)) (fun _ _ _ h => h) (Or.inl ⟨by rfl, ?_⟩) ?_ ?_
             rotate_left
             ·intro w'
              go_simp
              with_reducible rfl
             rotate_left
             ·simp only [Act.put, HW.LA, HW.LZ, HW.LS, i64_w, i32_w]
              rfl
             refine pure_ (i := 11) (N := some 74) (v := ?_) (a' := ?_) #[true, true, true, true, true, true, true, true, true, false, true, true, false, false, false, false, false] rfl rfl (any_of HT_.out (by kernel_rfl)) (fun _ _ _ h => h) (Or.inl ⟨by rfl, ?_⟩) ?_ ?_
             rotate_left
             ·intro w'
              go_simp
              with_reducible rfl
             rotate_left
             ·simp only [Act.put, HW.LA, HW.LZ, HW.LS, i64_w, i32_w]
              rfl
             refine pure_ (i := 12) (N := some 75) (v := ?_) (a' := ?_) #[true, true, true, true, true, true, true, true, true, false, true, true, true, false, false, false, false] rfl rfl (any_of HT_.out (by kernel_rfl)) (fun _ _ _ h => h) (Or.inl ⟨by rfl, ?_⟩) ?_ ?_
             rotate_left
             ·intro w'
              go_simp
              with_reducible rfl
             rotate_left
             ·simp only [Act.put, HW.LA, HW.LZ, HW.LS, i64_w, i32_w]
              rfl
             refine take_ (i := 9) (N := some 72) (v := ?_) (a' := ?_) #[true, true, true, true, true, true, true, true, true, true, true, true, true, false, false, false, false] rfl rfl (take_ofW HT_.out HW_.out (by kernel_rfl)) (fun _ _ _ h => h) (Or.inl ⟨by rfl, ?_⟩) hHeld ?_ ?_
             rotate_left
             ·rintro w' ⟨s0, s1, s2, s3, s4, s5, s6⟩
              go_simp
              with_reducible rfl
             rotate_left
             ·simp only [Act.put, HW.LA, HW.LZ, HW.LS, i64_w, i32_w]
              rfl
             refine take_ (i := 13) (N := some 76) (v := ?_) (a' := ?_) #[true, true, true, true, true, true, true, true, true, true, true, true, true, true, false, false, false] rfl rfl (take_ofW HT_.out HW_.out (by kernel_rfl)) (fun _ _ _ h => h) (Or.inl ⟨by rfl, ?_⟩) hHeld ?_ ?_
             rotate_left
             ·rintro w' ⟨s0, s1, s2, s3, s4, s5, s6⟩
              go_simp
              with_reducible rfl
             rotate_left
             ·simp only [Act.put, HW.LA, HW.LZ, HW.LS, i64_w, i32_w]
              rfl
             refine pure_ (i := 14) (N := some 77) (v := ?_) (a' := ?_) #[true, true, true, true, true, true, true, true, true, true, true, true, true, true, true, false, false] rfl rfl (any_of HT_.out (by kernel_rfl)) (fun _ _ _ h => h) (Or.inl ⟨by rfl, ?_⟩) ?_ ?_
             rotate_left
             ·intro w'
              go_simp
              with_reducible rfl
             rotate_left
             ·simp only [Act.put, HW.LA, HW.LZ, HW.LS, i64_w, i32_w]
              rfl
             refine pure_ (i := 15) (N := some 78) (v := ?_) (a' := ?_) #[true, true, true, true, true, true, true, true, true, true, true, true, true, true, true, true, false] rfl rfl (any_of HT_.out (by kernel_rfl)) (fun _ _ _ h => h) (Or.inl ⟨by rfl, ?_⟩) ?_ ?_
             rotate_left
             ·intro w'
              go_simp
              with_reducible rfl
             rotate_left
             ·simp only [Act.put, HW.LA, HW.LZ, HW.LS, i64_w, i32_w]
              rfl
             refine last_ (i := 16) (N := none) #[true, true, true, true, true, true, true, true, true, true, true, true, true, true, true, true, true] rfl rfl (one_of HT_.out (by kernel_rfl)) (by decide) (fun K hK => ?_)
             refine skip_ (w1 := ?_) (by rfl) rfl ?_ ?_
             rotate_left
             ·go_simp
              rfl
             refine hK.out _ _ ?_
             clear hK K
             refine done_ (done_of HT_.out (by kernel_rfl)) ?_
             try go_wp2
             (try simp only [← hl9_1])
             go_roundg k1
             case measure => have := HK1.out; omega
             case rel => exact ⟨(y243), (wrap64 (x11_1 + 1)), (by first | rfl | (simp; done) | (simp [*]; done)), H', ⟨by have := HK1.out; omega⟩, ⟨by (try simp only [hl9_1]); (with_reducible repeat (first | apply Kd.R_alloc | apply Kd.R_drewN | apply Kd.R_drew)); exact Kd.R_mono (Kd.R_far (p := ⟨go44, ((ji42) : Int).toNat, none⟩) (Kd.R_mono HO_0.out (fun k_ hk => (⟨hk, fun e_ => hk (by rw [e_]; rfl)⟩ : _ ∧ k_ ≠ go44))) (fun _ hk => hk.2) (.int .u8 (Go.bits .xor .u8 (rd x9_1 (ji42)) (HW.pick4 a2_1 a2_2 a2_3 a2_4 x11_1)))) (fun _ hk => hk.1)⟩, ⟨by (try simp only [hl9_1]); (with_reducible repeat (first | apply Kd.R_alloc | apply Kd.R_drewN | apply Kd.R_drew)); exact HQ46.out⟩, ⟨by (try simp only [hl9_1]); (with_reducible repeat (first | refine blk_drewN ?_ _ | refine blk_drew ?_ | refine blk_alloc ?_ _)); refine blk_far ?_ (by have h_ := Kd.R_ne HO_9.out BK224.out (by decide); intro e_; exact h_ (by rw [e_]; rfl)) _; (with_reducible repeat (first | refine blk_drewN ?_ _ | refine blk_drew ?_ | refine blk_alloc ?_ _)); exact BK224.out⟩, ⟨by repeat (first | (with_reducible first | exact HB.out | apply below_alloc | apply pw_below_drewN | apply below_drew1 | refine below_set ?_ GB44.out | refine below_set ?_ GE224.out) | exact HB.out)⟩, ⟨HW.pick4_next HI0_.out hi4_⟩⟩
            ·rw [if_neg c43] at H
             exact absurd H (by simp)
           ·rw [if_neg c41] at H
            have c41b0 : decide ((wrap64 ((Int.tmod (wrap64 (a2_0)) (y239.length : Int)) + x11_1)) < (x9_1.length : Int)) = false := decide_eq_false c41
            (try simp only [hl9_1] at c41b0)
            clear c41
            by_cases c47 : t233 ≥ 0
            ·rw [if_pos c47] at H
             have c47b0 : decide (0 ≤ t233) = true := decide_eq_true c47
             clear c47
             by_cases c48 : t233 ≤ 4294967295
             ·rw [if_pos c48] at H
              have c48b0 : decide (t233 ≤ 4294967295) = true := decide_eq_true c48
              clear c48
              replace H := Option.bind_eq_some_iff.mp H
              obtain ⟨t244, A490, H⟩ := H
              replace H : (if ((t244 == t233) == ((strOfNums x9_1).toList == (strOfNums y230).toList)) = true then (if t225 = true then (some true) else (none)) else (none)) = some r := H
              have A49 := Aside0.mk A490
              clear A490
              by_cases c50 : ((t244 == t233) == ((strOfNums x9_1).toList == (strOfNums y230).toList)) = true
              ·rw [if_pos c50] at H
               have c50b0 : ((t244 == t233) == ((strOfNums x9_1).toList == (strOfNums y230).toList)) = true := c50
               (try (have c50b1 : decide ((t244 == t233) = ((strOfNums x9_1).toList == (strOfNums y230).toList)) = true := by simpa using c50))
               (try (have c50b2 : ((t244 == t233) == ((strOfNums x9_1).toList == (strOfNums y230).toList)) = true := by simpa using c50))
               clear c50
               by_cases c51 : t225 = true
               ·subst c51
                have H1 : (some true) = some r := by rw [if_pos rfl] at H; exact H
                clear H
                have H := H1
                clear H1
                obtain rfl := Option.some.inj H
                try go_wp2
                have n0_ := Aside0.mk (Kd.R_drew HO_0.out)
                have n1_ := Aside0.mk (Kd.R_drew HO_9.out)
                have n2_ := Aside0.mk (blk_drew BK224.out)
                have n3_ := Aside0.mk (below_drew1 HB.out)
                clear HO_0
                clear HO_9
                clear BK224
                clear HB
                have HO_0 := n0_
                have HO_9 := n1_
                have BK224 := n2_
                have HB := n3_
                clear n0_ n1_ n2_ n3_
                have hrc54_ := HW.keepC (w := wr.drew) (Kd.R_reads' HO_9.out).2.2
                have hrc55_ := HW.keepC (w := wr.drew) (Kd.R_reads' HO_0.out).2.2
                refine start_ (n := 23) (S := fun w' => ∀ (A_ : Option Addr) (n_ : Nat) (x_ : List Int), Kd.C (Kd.int .u8) wr.drew A_ n_ x_ → Kd.C (Kd.int .u8) w' A_ n_ x_) (ds := []) #[false, false, false, false, false, false, false, false, false, false, false, false, false, false, false, false, false, false, false, false, false, false, false] (by kernel_rfl) rfl rfl (fun _ _ _ h_ => h_) (fun hHeld => ?_); refine with_tabW phaetonlaw24_ImageSeal.tab14 phaetonlaw24_ImageSeal.bits14 (fun HT_ HW_ => ?_)
                generalize wr.drew = w52 at HO_0 HO_9 BK224 HB hrc54_ hrc55_ hHeld ⊢
                refine pure_ (i := 0) (N := some 79) (v := ?_) (a' := ?_) #[true, false, false, false, false, false, false, false, false, false, false, false, false, false, false, false, false, false, false, false, false, false, false] rfl rfl (any_of HT_.out (by kernel_rfl)) (fun _ _ _ h => h) (Or.inl ⟨by rfl, ?_⟩) ?_ ?_
                rotate_left
                ·intro w'
                 go_simp
                 with_reducible rfl
                rotate_left
                ·simp only [Act.put, HW.LA, HW.LZ, HW.LS, i64_w, i32_w]
                 rfl
                refine pure_ (i := 1) (N := some 80) (v := ?_) (a' := ?_) #[true, true, false, false, false, false, false, false, false, false, false, false, false, false, false, false, false, false, false, false, false, false, false] rfl rfl (any_of HT_.out (by kernel_rfl)) (fun _ _ _ h => h) (Or.inl ⟨by rfl, ?_⟩) ?_ ?_
                rotate_left
                ·intro w'
                 go_simp
                 with_reducible rfl
                rotate_left
                ·simp only [Act.put, HW.LA, HW.LZ, HW.LS, i64_w, i32_w]
                 rfl
                refine pure_ (i := 2) (N := some 81) (v := ?_) (a' := ?_) #[true, true, true, false, false, false, false, false, false, false, false, false, false, false, false, false, false, false, false, false, false, false, false] rfl rfl (any_of HT_.out (by kernel_rfl)) (fun _ _ _ h => h) (Or.inl ⟨by rfl, ?_⟩) ?_ ?_
                rotate_left
                ·intro w'
                 go_simp
                 with_reducible rfl
                rotate_left
                ·simp only [Act.put, HW.LA, HW.LZ, HW.LS, i64_w, i32_w]
                 rfl
                refine pure_ (i := 3) (N := some 82) (v := ?_) (a' := ?_) #[true, true, true, true, false, false, false, false, false, false, false, false, false, false, false, false, false, false, false, false, false, false, false] rfl rfl (any_of HT_.out (by kernel_rfl)) (fun _ _ _ h => h) (Or.inl ⟨by rfl, ?_⟩) ?_ ?_
                rotate_left
                ·intro w'
                 go_simp
                 with_reducible rfl
                rotate_left
                ·simp only [Act.put, HW.LA, HW.LZ, HW.LS, i64_w, i32_w]
                 rfl
                refine pure_ (i := 4) (N := some 83) (v := ?_) (a' := ?_) #[true, true, true, true, true, false, false, false, false, false, false, false, false, false, false, false, false, false, false, false, false, false, false] rfl rfl (any_of HT_.out (by kernel_rfl)) (fun _ _ _ h => h) (Or.inl ⟨by rfl, ?_⟩) ?_ ?_
                rotate_left
                ·intro w'
                 go_simp
                 with_reducible rfl
                rotate_left
                ·simp only [Act.put, HW.LA, HW.LZ, HW.LS, i64_w, i32_w]
                 rfl
                refine pure_ (i := 5) (N := some 84) (v := ?_) (a' := ?_) #[true, true, true, true, true, true, false, false, false, false, false, false, false, false, false, false, false, false, false, false, false, false, false] rfl rfl (any_of HT_.out (by kernel_rfl)) (fun _ _ _ h => h) (Or.inl ⟨by rfl, ?_⟩) ?_ ?_
                rotate_left
                ·intro w'
                 go_simp
                 with_reducible rfl
                rotate_left
                ·simp only [Act.put, HW.LA, HW.LZ, HW.LS, i64_w, i32_w]
                 rfl
                refine pure_ (i := 6) (N := some 85) (v := ?_) (a' := ?_) #[true, true, true, true, true, true, true, false, false, false, false, false, false, false, false, false, false, false, false, false, false, false, false] rfl rfl (any_of HT_.out (by kernel_rfl)) (fun _ _ _ h => h) (Or.inl ⟨by rfl, ?_⟩) ?_ ?_
                rotate_left
                ·intro w'
                 go_simp
                 with_reducible rfl
                rotate_left
                ·simp only [Act.put, HW.LA, HW.LZ, HW.LS, i64_w, i32_w]
                 rfl
                refine pure_ (i := 7) (N := some 86) (v := ?_) (a' := ?_) #[true, true, true, true, true, true, true, true, false, false, false, false, false, false, false, false, false, false, false, false, false, false, false] rfl rfl (any_of HT_.out (by kernel_rfl)) (fun _ _ _ h => h) (Or.inl ⟨by rfl, ?_⟩) ?_ ?_
                rotate_left
                ·intro w'
                 go_simp
                 with_reducible rfl
                rotate_left
                ·simp only [Act.put, HW.LA, HW.LZ, HW.LS, i64_w, i32_w]
                 rfl
                refine pure_ (i := 8) (N := some 87) (v := ?_) (a' := ?_) #[true, true, true, true, true, true, true, true, true, false, false, false, false, false, false, false, false, false, false, false, false, false, false] rfl rfl (any_of HT_.out (by kernel_rfl)) (fun _ _ _ h => h) (Or.inl ⟨by rfl, ?_⟩) ?_ ?_
                rotate_left
                ·intro w'
                 go_simp
                 with_reducible rfl
                rotate_left
                ·simp only [Act.put, HW.LA, HW.LZ, HW.LS, i64_w, i32_w]
                 rfl
                refine pure_ (i := 10) (N := some 89) (v := ?_) (a' := ?_) #[true, true, true, true, true, true, true, true, true, false, true, false, false, false, false, false, false, false, false, false, false, false, false] rfl rfl (any_of HT_.out (by kernel_rfl)) (fun _ _ _ h => h) (Or.inl ⟨by rfl, ?_⟩) ?_ ?_
                rotate_left
                ·intro w'
                 go_simp
                 with_reducible rfl
                rotate_left
                ·simp only [Act.put, HW.LA, HW.LZ, HW.LS, i64_w, i32_w]
                 rfl
                refine pure_ (i := 12) (N := some 91) (v := ?_) (a' := ?_) #[true, true, true, true, true, true, true, true, true, false, true, false, true, false, false, false, false, false, false, false, false, false, false] rfl rfl (any_of HT_.out (by kernel_rfl)) (fun _ _ _ h => h) (Or.inl ⟨by rfl, ?_⟩) ?_ ?_
                rotate_left
                ·intro w'
                 go_simp
                 with_reducible rfl
                rotate_left
                ·simp only [Act.put, HW.LA, HW.LZ, HW.LS, i64_w, i32_w]
                 rfl
                refine take_ (i := 13) (N := some 92) (v := ?_) (a' := ?_) #[true, true, true, true, true, true, true, true, true, false, true, false, true, true, false, false, false, false, false, false, false, false, false] rfl rfl (take_ofW HT_.out HW_.out (by kernel_rfl)) (fun _ _ _ h => h) (Or.inl ⟨by rfl, ?_⟩) hHeld ?_ ?_
                rotate_left
                ·intro w' hS_
                 have hcv54 := fun c_ => Kd.C_string (c := c_) (P := Try.prog) Try.underlying22 Try.underlying5 Try.underlying9 (hS_ _ _ _ hrc54_)
                 have hcv55 := fun c_ => Kd.C_string (c := c_) (P := Try.prog) Try.underlying22 Try.underlying5 Try.underlying9 (hS_ _ _ _ hrc55_)
                 go_simp
                 with_reducible rfl
                rotate_left
                ·simp only [Act.put, HW.LA, HW.LZ, HW.LS, i64_w, i32_w]
                 rfl
                refine pure_ (i := 14) (N := some 93) (v := ?_) (a' := ?_) #[true, true, true, true, true, true, true, true, true, false, true, false, true, true, true, false, false, false, false, false, false, false, false] rfl rfl (any_of HT_.out (by kernel_rfl)) (fun _ _ _ h => h) (Or.inl ⟨by rfl, ?_⟩) ?_ ?_
                rotate_left
                ·intro w'
                 go_simp
                 with_reducible rfl
                rotate_left
                ·simp only [Act.put, HW.LA, HW.LZ, HW.LS, i64_w, i32_w]
                 rfl
                refine take_ (i := 15) (N := some 94) (v := ?_) (a' := ?_) #[true, true, true, true, true, true, true, true, true, false, true, false, true, true, true, true, false, false, false, false, false, false, false] rfl rfl (take_ofW HT_.out HW_.out (by kernel_rfl)) (fun _ _ _ h => h) (Or.inl ⟨by rfl, ?_⟩) hHeld ?_ ?_
                rotate_left
                ·intro w' hS_
                 have hcv54 := fun c_ => Kd.C_string (c := c_) (P := Try.prog) Try.underlying22 Try.underlying5 Try.underlying9 (hS_ _ _ _ hrc54_)
                 have hcv55 := fun c_ => Kd.C_string (c := c_) (P := Try.prog) Try.underlying22 Try.underlying5 Try.underlying9 (hS_ _ _ _ hrc55_)
                 go_simp
                 with_reducible rfl
                rotate_left
                ·simp only [Act.put, HW.LA, HW.LZ, HW.LS, i64_w, i32_w]
                 rfl
                refine pure_ (i := 16) (N := some 95) (v := ?_) (a' := ?_) #[true, true, true, true, true, true, true, true, true, false, true, false, true, true, true, true, true, false, false, false, false, false, false] rfl rfl (any_of HT_.out (by kernel_rfl)) (fun _ _ _ h => h) (Or.inl ⟨by rfl, ?_⟩) ?_ ?_
                rotate_left
                ·intro w'
                 go_simp
                 with_reducible rfl
                rotate_left
                ·simp only [Act.put, HW.LA, HW.LZ, HW.LS, i64_w, i32_w]
                 rfl
                refine one_ (i := 9) (N := some 88) #[true, true, true, true, true, true, true, true, true, true, true, false, true, true, true, true, true, false, false, false, false, false, false] rfl rfl (one_of HT_.out (by kernel_rfl)) (by decide) (fun K hK => ?_)
                refine goes_ Try.func20 (by kernel_rfl) rfl #[.slice Ao39 x9_1.length co39, .int .i64 a1] (by rfl) rfl rfl (by (try simp only [List.map_toArray, List.map_cons, List.map_nil]); first | done | rfl | (simp only [List.length_drop, List.length_take]; rfl)) ?_
                with_reducible refine (image_Seal.calls k1 _ _ x9_1 a1 t244 _ ?side1 ?side2 A49.out).mono ?_
                (case side1 => repeat (first | exact (Kd.R_reads' HO_9.out).2.2 | (with_reducible refine Kd.C_alloc ?_ _) | (with_reducible refine Kd.C_drewN ?_ _) | (with_reducible refine Kd.C_drew ?_)))
                (case side2 => exact (Kd.R_reads' HO_9.out).2.1)
                rintro e w53 ⟨rfl, hb⟩
                have hbS_ := hb
                refine ⟨_, rfl, ?_⟩
                have n0_ := Aside0.mk (Kd.R_below (by (with_reducible repeat (first | apply Kd.R_alloc | apply Kd.R_drewN | apply Kd.R_drew)); exact HO_0.out) hb)
                have n1_ := Aside0.mk (Kd.R_below (by (with_reducible repeat (first | apply Kd.R_alloc | apply Kd.R_drewN | apply Kd.R_drew)); exact HO_9.out) hb)
                have n2_ := Aside0.mk (blk_below (g := gb224) (o := .cells #[.int .u16 a2_0, .int .u8 a2_1, .int .u8 a2_2, .int .u8 a2_3, .int .u8 a2_4] 43 (0, 0)) (by (with_reducible repeat (first | refine blk_drewN ?_ _ | refine blk_drew ?_ | refine blk_alloc ?_ _)); exact BK224.out) hb)
                have n3_ := Aside0.mk (below_step (by repeat (first | (with_reducible first | exact HB.out | apply below_alloc | apply pw_below_drewN | apply below_drew1 | refine below_set ?_ GE224.out) | exact HB.out)) hb)
                clear HO_0
                clear HO_9
                clear BK224
                clear HB
                have HO_0 := n0_
                have HO_9 := n1_
                have BK224 := n2_
                have HB := n3_
                clear n0_ n1_ n2_ n3_
                (try clear hb)
                (try clear hb2)
                (try clear hk)
                (try clear hi)
                skip
                skip
                refine hK.out _ _ (fun A_ n_ x_ h_ => Kd.C_below (hHeld A_ n_ x_ h_) hbS_) (fun hHeld => ?_)
                clear hK K
                refine norm_ (a' := ?_) ?_ ?_
                rotate_left
                ·show Act.put _ (some 88) _ = _
                 simp only [Act.put, HW.LA, HW.LZ, HW.LS, i64_w, i32_w]
                 rfl
                refine pure_ (i := 11) (N := some 90) (v := ?_) (a' := ?_) #[true, true, true, true, true, true, true, true, true, true, true, true, true, true, true, true, true, false, false, false, false, false, false] rfl rfl (any_of HT_.out (by kernel_rfl)) (fun _ _ _ h => h) (Or.inl ⟨by rfl, ?_⟩) ?_ ?_
                rotate_left
                ·intro w'
                 go_simp
                 with_reducible rfl
                rotate_left
                ·simp only [Act.put, HW.LA, HW.LZ, HW.LS, i64_w, i32_w]
                 rfl
                refine pure_ (i := 17) (N := some 96) (v := ?_) (a' := ?_) #[true, true, true, true, true, true, true, true, true, true, true, true, true, true, true, true, true, true, false, false, false, false, false] rfl rfl (any_of HT_.out (by kernel_rfl)) (fun _ _ _ h => h) (Or.inl ⟨by rfl, ?_⟩) ?_ ?_
                rotate_left
                ·intro w'
                 go_simp
                 with_reducible rfl
                rotate_left
                ·simp only [Act.put, HW.LA, HW.LZ, HW.LS, i64_w, i32_w]
                 rfl
                refine pure_ (i := 18) (N := some 97) (v := ?_) (a' := ?_) #[true, true, true, true, true, true, true, true, true, true, true, true, true, true, true, true, true, true, true, false, false, false, false] rfl rfl (any_of HT_.out (by kernel_rfl)) (fun _ _ _ h => h) (Or.inl ⟨by rfl, ?_⟩) ?_ ?_
                rotate_left
                ·intro w'
                 go_simp
                 with_reducible rfl
                rotate_left
                ·simp only [Act.put, HW.LA, HW.LZ, HW.LS, i64_w, i32_w]
                 rfl
                refine pure_ (i := 19) (N := some 98) (v := ?_) (a' := ?_) #[true, true, true, true, true, true, true, true, true, true, true, true, true, true, true, true, true, true, true, true, false, false, false] rfl rfl (any_of HT_.out (by kernel_rfl)) (fun _ _ _ h => h) (Or.inl ⟨by rfl, ?_⟩) ?_ ?_
                rotate_left
                ·intro w'
                 go_simp
                 with_reducible rfl
                rotate_left
                ·simp only [Act.put, HW.LA, HW.LZ, HW.LS, i64_w, i32_w]
                 rfl
                refine pure_ (i := 20) (N := some 99) (v := ?_) (a' := ?_) #[true, true, true, true, true, true, true, true, true, true, true, true, true, true, true, true, true, true, true, true, true, false, false] rfl rfl (any_of HT_.out (by kernel_rfl)) (fun _ _ _ h => h) (Or.inl ⟨by rfl, ?_⟩) ?_ ?_
                rotate_left
                ·intro w'
                 go_simp
                 with_reducible rfl
                rotate_left
                ·simp only [Act.put, HW.LA, HW.LZ, HW.LS, i64_w, i32_w]
                 rfl
                refine pure_ (i := 21) (N := some 100) (v := ?_) (a' := ?_) #[true, true, true, true, true, true, true, true, true, true, true, true, true, true, true, true, true, true, true, true, true, true, false] rfl rfl (any_of HT_.out (by kernel_rfl)) (fun _ _ _ h => h) (Or.inl ⟨by rfl, ?_⟩) ?_ ?_
                rotate_left
                ·intro w'
                 go_simp
                 with_reducible rfl
                rotate_left
                ·simp only [Act.put, HW.LA, HW.LZ, HW.LS, i64_w, i32_w]
                 rfl
                refine pure_ (i := 22) (N := some 6) (v := ?_) (a' := ?_) #[true, true, true, true, true, true, true, true, true, true, true, true, true, true, true, true, true, true, true, true, true, true, true] rfl rfl (any_of HT_.out (by kernel_rfl)) (fun _ _ _ h => h) (Or.inl ⟨by rfl, ?_⟩) ?_ ?_
                rotate_left
                ·intro w'
                 go_simp
                 with_reducible rfl
                rotate_left
                ·simp only [Act.put, HW.LA, HW.LZ, HW.LS, i64_w, i32_w]
                 rfl
                refine done_ (done_of HT_.out (by kernel_rfl)) ?_
                try go_wp2
                go_ret
                exact ⟨by first | rfl | (simp [errW_none, errW_some] <;> rfl) | (simp only [← hji5]; first | rfl | (simp [errW_none, errW_some] <;> rfl)) | (simp [*, errW_none, errW_some] <;> rfl), by repeat (first | (with_reducible first | exact HB.out | apply below_alloc | apply pw_below_drewN | apply below_drew1 | refine below_set ?_ GE224.out) | exact HB.out)⟩
               ·replace c51 := Bool.eq_false_iff.mpr c51
                subst c51
                have H1 : (none) = some r := by rw [if_neg (show ¬ (false = true) by decide)] at H; exact H
                clear H
                have H := H1
                clear H1
                exact absurd H (by simp)
              ·rw [if_neg c50] at H
               have c50b0 : ((t244 == t233) == ((strOfNums x9_1).toList == (strOfNums y230).toList)) = false := by simpa using c50
               (try (have c50b1 : decide ((t244 == t233) = ((strOfNums x9_1).toList == (strOfNums y230).toList)) = false := by simpa using c50))
               (try (have c50b2 : ((t244 == t233) == ((strOfNums x9_1).toList == (strOfNums y230).toList)) = false := by simpa using c50))
               (try (have c50b3 : ¬ ((t244 == t233) = ((strOfNums x9_1).toList == (strOfNums y230).toList)) := by simpa using c50))
               clear c50
               exact absurd H (by simp)
             ·rw [if_neg c48] at H
              have c48b0 : decide (t233 ≤ 4294967295) = false := decide_eq_false c48
              clear c48
              exact absurd H (by simp)
            ·rw [if_neg c47] at H
             have c47b0 : decide (0 ≤ t233) = false := decide_eq_false c47
             clear c47
             exact absurd H (by simp)
          ·rw [if_neg c40] at H
           have c40b0 : decide (x11_1 < 4) = false := decide_eq_false c40
           clear c40
           by_cases c57 : t233 ≥ 0
           ·rw [if_pos c57] at H
            have c57b0 : decide (0 ≤ t233) = true := decide_eq_true c57
            clear c57
            by_cases c58 : t233 ≤ 4294967295
            ·rw [if_pos c58] at H
             have c58b0 : decide (t233 ≤ 4294967295) = true := decide_eq_true c58
             clear c58
             replace H := Option.bind_eq_some_iff.mp H
             obtain ⟨t245, A590, H⟩ := H
             replace H : (if ((t245 == t233) == ((strOfNums x9_1).toList == (strOfNums y230).toList)) = true then (if t225 = true then (some true) else (none)) else (none)) = some r := H
             have A59 := Aside0.mk A590
             clear A590
             by_cases c60 : ((t245 == t233) == ((strOfNums x9_1).toList == (strOfNums y230).toList)) = true
             ·rw [if_pos c60] at H
              have c60b0 : ((t245 == t233) == ((strOfNums x9_1).toList == (strOfNums y230).toList)) = true := c60
              (try (have c60b1 : decide ((t245 == t233) = ((strOfNums x9_1).toList == (strOfNums y230).toList)) = true := by simpa using c60))
              (try (have c60b2 : ((t245 == t233) == ((strOfNums x9_1).toList == (strOfNums y230).toList)) = true := by simpa using c60))
              clear c60
              by_cases c61 : t225 = true
              ·subst c61
               have H1 : (some true) = some r := by rw [if_pos rfl] at H; exact H
               clear H
               have H := H1
               clear H1
               obtain rfl := Option.some.inj H
               try go_wp2
               have n0_ := Aside0.mk (Kd.R_drew HO_0.out)
               have n1_ := Aside0.mk (Kd.R_drew HO_9.out)
               have n2_ := Aside0.mk (blk_drew BK224.out)
               have n3_ := Aside0.mk (below_drew1 HB.out)
               clear HO_0
               clear HO_9
               clear BK224
               clear HB
               have HO_0 := n0_
               have HO_9 := n1_
               have BK224 := n2_
               have HB := n3_
               clear n0_ n1_ n2_ n3_
               have hrc64_ := HW.keepC (w := wr.drew) (Kd.R_reads' HO_9.out).2.2
               have hrc65_ := HW.keepC (w := wr.drew) (Kd.R_reads' HO_0.out).2.2
               refine start_ (n := 23) (S := fun w' => ∀ (A_ : Option Addr) (n_ : Nat) (x_ : List Int), Kd.C (Kd.int .u8) wr.drew A_ n_ x_ → Kd.C (Kd.int .u8) w' A_ n_ x_) (ds := []) #[false, false, false, false, false, false, false, false, false, false, false, false, false, false, false, false, false, false, false, false, false, false, false] (by kernel_rfl) rfl rfl (fun _ _ _ h_ => h_) (fun hHeld => ?_); refine with_tabW phaetonlaw24_ImageSeal.tab14 phaetonlaw24_ImageSeal.bits14 (fun HT_ HW_ => ?_)
               generalize wr.drew = w62 at HO_0 HO_9 BK224 HB hrc64_ hrc65_ hHeld ⊢
               refine pure_ (i := 0) (N := some 79) (v := ?_) (a' := ?_) #[true, false, false, false, false, false, false, false, false, false, false, false, false, false, false, false, false, false, false, false, false, false, false] rfl rfl (any_of HT_.out (by kernel_rfl)) (fun _ _ _ h => h) (Or.inl ⟨by rfl, ?_⟩) ?_ ?_
               rotate_left
               ·intro w'
                go_simp
                with_reducible rfl
               rotate_left
               ·simp only [Act.put, HW.LA, HW.LZ, HW.LS, i64_w, i32_w]
                rfl
               refine pure_ (i := 1) (N := some 80) (v := ?_) (a' := ?_) #[true, true, false, false, false, false, false, false, false, false, false, false, false, false, false, false, false, false, false, false, false, false, false] rfl rfl (any_of HT_.out (by kernel_rfl)) (fun _ _ _ h => h) (Or.inl ⟨by rfl, ?_⟩) ?_ ?_
               rotate_left
               ·intro w'
                go_simp
                with_reducible rfl
               rotate_left
               ·simp only [Act.put, HW.LA, HW.LZ, HW.LS, i64_w, i32_w]
                rfl
               refine pure_ (i := 2) (N := some 81) (v := ?_) (a' := ?_) #[true, true, true, false, false, false, false, false, false, false, false, false, false, false, false, false, false, false, false, false, false, false, false] rfl rfl (any_of HT_.out (by kernel_rfl)) (fun _ _ _ h => h) (Or.inl ⟨by rfl, ?_⟩) ?_ ?_
               rotate_left
               ·intro w'
                go_simp
                with_reducible rfl
               rotate_left
               ·simp only [Act.put, HW.LA, HW.LZ, HW.LS, i64_w, i32_w]
                rfl
               refine pure_ (i := 3) (N := some 82) (v := ?_) (a' := ?_) #[true, true, true, true, false, false, false, false, false, false, false, false, false, false, false, false, false, false, false, false, false, false, false] rfl rfl (any_of HT_.out (by kernel_rfl)) (fun _ _ _ h => h) (Or.inl ⟨by rfl, ?_⟩) ?_ ?_
               rotate_left
               ·intro w'
                go_simp
                with_reducible rfl
               rotate_left
               ·simp only [Act.put, HW.LA, HW.LZ, HW.LS, i64_w, i32_w]
                rfl
               refine pure_ (i := 4) (N := some 83) (v := ?_) (a' := ?_) #[true, true, true, true, true, false, false, false, false, false, false, false, false, false, false, false, false, false, false, false, false, false, false] rfl rfl (any_of HT_.out (by kernel_rfl)) (fun _ _ _ h => h) (Or.inl ⟨by rfl, ?_⟩) ?_ ?_
               rotate_left
               ·intro w'
                go_simp
                with_reducible rfl
               rotate_left
               ·simp only [Act.put, HW.LA, HW.LZ, HW.LS, i64_w, i32_w]
                rfl
               refine pure_ (i := 5) (N := some 84) (v := ?_) (a' := ?_) #[true, true, true, true, true, true, false, false, false, false, false, false, false, false, false, false, false, false, false, false, false, false, false] rfl rfl (any_of HT_.out (by kernel_rfl)) (fun _ _ _ h => h) (Or.inl ⟨by rfl, ?_⟩) ?_ ?_
               rotate_left
               ·intro w'
                go_simp
                with_reducible rfl
               rotate_left
               ·simp only [Act.put, HW.LA, HW.LZ, HW.LS, i64_w, i32_w]
                rfl
               refine pure_ (i := 6) (N := some 85) (v := ?_) (a' := ?_) #[true, true, true, true, true, true, true, false, false, false, false, false, false, false, false, false, false, false, false, false, false, false, false] rfl rfl (any_of HT_.out (by kernel_rfl)) (fun _ _ _ h => h) (Or.inl ⟨by rfl, ?_⟩) ?_ ?_
               rotate_left
               ·intro w'
                go_simp
                with_reducible rfl
               rotate_left
               ·simp only [Act.put, HW.LA, HW.LZ, HW.LS, i64_w, i32_w]
                rfl
               refine pure_ (i := 7) (N := some 86) (v := ?_) (a' := ?_) #[true, true, true, true, true, true, true, true, false, false, false, false, false, false, false, false, false, false, false, false, false, false, false] rfl rfl (any_of HT_.out (by kernel_rfl)) (fun _ _ _ h => h) (Or.inl ⟨by rfl, ?_⟩) ?_ ?_
               rotate_left
               ·intro w'
                go_simp
                with_reducible rfl
               rotate_left
               ·simp only [Act.put, HW.LA, HW.LZ, HW.LS, i64_w, i32_w]
                rfl
               refine pure_ (i := 8) (N := some 87) (v := ?_) (a' := ?_) #[true, true, true, true, true, true, true, true, true, false, false, false, false, false, false, false, false, false, false, false, false, false, false] rfl rfl (any_of HT_.out (by kernel_rfl)) (fun _ _ _ h => h) (Or.inl ⟨by rfl, ?_⟩) ?_ ?_
               rotate_left
               ·intro w'
                go_simp
                with_reducible rfl
               rotate_left
               ·simp only [Act.put, HW.LA, HW.LZ, HW.LS, i64_w, i32_w]
                rfl
               refine pure_ (i := 10) (N := some 89) (v := ?_) (a' := ?_) #[true, true, true, true, true, true, true, true, true, false, true, false, false, false, false, false, false, false, false, false, false, false, false] rfl rfl (any_of HT_.out (by kernel_rfl)) (fun _ _ _ h => h) (Or.inl ⟨by rfl, ?_⟩) ?_ ?_
               rotate_left
               ·intro w'
                go_simp
                with_reducible rfl
               rotate_left
               ·simp only [Act.put, HW.LA, HW.LZ, HW.LS, i64_w, i32_w]
                rfl
               refine pure_ (i := 12) (N := some 91) (v := ?_) (a' := ?_) #[true, true, true, true, true, true, true, true, true, false, true, false, true, false, false, false, false, false, false, false, false, false, false] rfl rfl (any_of HT_.out (by kernel_rfl)) (fun _ _ _ h => h) (Or.inl ⟨by rfl, ?_⟩) ?_ ?_
               rotate_left
               ·intro w'
                go_simp
                with_reducible rfl
               rotate_left
               ·simp only [Act.put, HW.LA, HW.LZ, HW.LS, i64_w, i32_w]
                rfl
               refine take_ (i := 13) (N := some 92) (v := ?_) (a' := ?_) #[true, true, true, true, true, true, true, true, true, false, true, false, true, true, false, false, false, false, false, false, false, false, false] rfl rfl (take_ofW HT_.out HW_.out (by kernel_rfl)) (fun _ _ _ h => h) (Or.inl ⟨by rfl, ?_⟩) hHeld ?_ ?_
               rotate_left
               ·intro w' hS_
                have hcv64 := fun c_ => Kd.C_string (c := c_) (P := Try.prog) Try.underlying22 Try.underlying5 Try.underlying9 (hS_ _ _ _ hrc64_)
                have hcv65 := fun c_ => Kd.C_string (c := c_) (P := Try.prog) Try.underlying22 Try.underlying5 Try.underlying9 (hS_ _ _ _ hrc65_)
                go_simp
                with_reducible rfl
               rotate_left
               ·simp only [Act.put, HW.LA, HW.LZ, HW.LS, i64_w, i32_w]
                rfl
               refine pure_ (i := 14) (N := some 93) (v := ?_) (a' := ?_) #[true, true, true, true, true, true, true, true, true, false, true, false, true, true, true, false, false, false, false, false, false, false, false] rfl rfl (any_of HT_.out (by kernel_rfl)) (fun _ _ _ h => h) (Or.inl ⟨by rfl, ?_⟩) ?_ ?_
               rotate_left
               ·intro w'
                go_simp
                with_reducible rfl
               rotate_left
               ·simp only [Act.put, HW.LA, HW.LZ, HW.LS, i64_w, i32_w]
                rfl
               refine take_ (i := 15) (N := some 94) (v := ?_) (a' := ?_) #[true, true, true, true, true, true, true, true, true, false, true, false, true, true, true, true, false, false, false, false, false, false, false] rfl rfl (take_ofW HT_.out HW_.out (by kernel_rfl)) (fun _ _ _ h => h) (Or.inl ⟨by rfl, ?_⟩) hHeld ?_ ?_
               rotate_left
               ·intro w' hS_
                have hcv64 := fun c_ => Kd.C_string (c := c_) (P := Try.prog) Try.underlying22 Try.underlying5 Try.underlying9 (hS_ _ _ _ hrc64_)
                have hcv65 := fun c_ => Kd.C_string (c := c_) (P := Try.prog) Try.underlying22 Try.underlying5 Try.underlying9 (hS_ _ _ _ hrc65_)
                go_simp
                with_reducible rfl
               rotate_left
               ·simp only [Act.put, HW.LA, HW.LZ, HW.LS, i64_w, i32_w]
                rfl
               refine pure_ (i := 16) (N := some 95) (v := ?_) (a' := ?_) #[true, true, true, true, true, true, true, true, true, false, true, false, true, true, true, true, true, false, false, false, false, false, false] rfl rfl (any_of HT_.out (by kernel_rfl)) (fun _ _ _ h => h) (Or.inl ⟨by rfl, ?_⟩) ?_ ?_
               rotate_left
               ·intro w'
                go_simp
                with_reducible rfl
               rotate_left
               ·simp only [Act.put, HW.LA, HW.LZ, HW.LS, i64_w, i32_w]
                rfl
               refine one_ (i := 9) (N := some 88) #[true, true, true, true, true, true, true, true, true, true, true, false, true, true, true, true, true, false, false, false, false, false, false] rfl rfl (one_of HT_.out (by kernel_rfl)) (by decide) (fun K hK => ?_)
               refine goes_ Try.func20 (by kernel_rfl) rfl #[.slice Ao39 x9_1.length co39, .int .i64 a1] (by rfl) rfl rfl (by (try simp only [List.map_toArray, List.map_cons, List.map_nil]); first | done | rfl | (simp only [List.length_drop, List.length_take]; rfl)) ?_
               with_reducible refine (image_Seal.calls k1 _ _ x9_1 a1 t245 _ ?side1 ?side2 A59.out).mono ?_
               (case side1 => repeat (first | exact (Kd.R_reads' HO_9.out).2.2 | (with_reducible refine Kd.C_alloc ?_ _) | (with_reducible refine Kd.C_drewN ?_ _) | (with_reducible refine Kd.C_drew ?_)))
               (case side2 => exact (Kd.R_reads' HO_9.out).2.1)
               rintro e w63 ⟨rfl, hb⟩
               have hbS_ := hb
               refine ⟨_, rfl, ?_⟩
               have n0_ := Aside0.mk (Kd.R_below (by (with_reducible repeat (first | apply Kd.R_alloc | apply Kd.R_drewN | apply Kd.R_drew)); exact HO_0.out) hb)
               have n1_ := Aside0.mk (Kd.R_below (by (with_reducible repeat (first | apply Kd.R_alloc | apply Kd.R_drewN | apply Kd.R_drew)); exact HO_9.out) hb)
               have n2_ := Aside0.mk (blk_below (g := gb224) (o := .cells #[.int .u16 a2_0, .int .u8 a2_1, .int .u8 a2_2, .int .u8 a2_3, .int .u8 a2_4] 43 (0, 0)) (by (with_reducible repeat (first | refine blk_drewN ?_ _ | refine blk_drew ?_ | refine blk_alloc ?_ _)); exact BK224.out) hb)
               have n3_ := Aside0.mk (below_step (by repeat (first | (with_reducible first | exact HB.out | apply below_alloc | apply pw_below_drewN | apply below_drew1 | refine below_set ?_ GE224.out) | exact HB.out)) hb)
               clear HO_0
               clear HO_9
               clear BK224
               clear HB
               have HO_0 := n0_
               have HO_9 := n1_
               have BK224 := n2_
               have HB := n3_
               clear n0_ n1_ n2_ n3_
               (try clear hb)
               (try clear hb2)
               (try clear hk)
               (try clear hi)
               skip
               skip
               refine hK.out _ _ (fun A_ n_ x_ h_ => Kd.C_below (hHeld A_ n_ x_ h_) hbS_) (fun hHeld => ?_)
               clear hK K
               refine norm_ (a' := ?_) ?_ ?_
               rotate_left
               ·show Act.put _ (some 88) _ = _
                simp only [Act.put, HW.LA, HW.LZ, HW.LS, i64_w, i32_w]
                rfl
               refine pure_ (i := 11) (N := some 90) (v := ?_) (a' := ?_) #[true, true, true, true, true, true, true, true, true, true, true, true, true, true, true, true, true, false, false, false, false, false, false] rfl rfl (any_of HT_.out (by kernel_rfl)) (fun _ _ _ h => h) (Or.inl ⟨by rfl, ?_⟩) ?_ ?_
               rotate_left
               ·intro w'
                go_simp
                with_reducible rfl
               rotate_left
               ·simp only [Act.put, HW.LA, HW.LZ, HW.LS, i64_w, i32_w]
                rfl
               refine pure_ (i := 17) (N := some 96) (v := ?_) (a' := ?_) #[true, true, true, true, true, true, true, true, true, true, true, true, true, true, true, true, true, true, false, false, false, false, false] rfl rfl (any_of HT_.out (by kernel_rfl)) (fun _ _ _ h => h) (Or.inl ⟨by rfl, ?_⟩) ?_ ?_
               rotate_left
               ·intro w'
                go_simp
                with_reducible rfl
               rotate_left
               ·simp only [Act.put, HW.LA, HW.LZ, HW.LS, i64_w, i32_w]
                rfl
               refine pure_ (i := 18) (N := some 97) (v := ?_) (a' := ?_) #[true, true, true, true, true, true, true, true, true, true, true, true, true, true, true, true, true, true, true, false, false, false, false] rfl rfl (any_of HT_.out (by kernel_rfl)) (fun _ _ _ h => h) (Or.inl ⟨by rfl, ?_⟩) ?_ ?_
               rotate_left
               ·intro w'
                go_simp
                with_reducible rfl
               rotate_left
               ·simp only [Act.put, HW.LA, HW.LZ, HW.LS, i64_w, i32_w]
                rfl
               refine pure_ (i := 19) (N := some 98) (v := ?_) (a' := ?_) #[true, true, true, true, true, true, true, true, true, true, true, true, true, true, true, true, true, true, true, true, false, false, false] rfl rfl (any_of HT_.out (by kernel_rfl)) (fun _ _ _ h => h) (Or.inl ⟨by rfl, ?_⟩) ?_ ?_
               rotate_left
               ·intro w'
                go_simp
                with_reducible rfl
               rotate_left
               ·simp only [Act.put, HW.LA, HW.LZ, HW.LS, i64_w, i32_w]
                rfl
               refine pure_ (i := 20) (N := some 99) (v := ?_) (a' := ?_) #[true, true, true, true, true, true, true, true, true, true, true, true, true, true, true, true, true, true, true, true, true, false, false] rfl rfl (any_of HT_.out (by kernel_rfl)) (fun _ _ _ h => h) (Or.inl ⟨by rfl, ?_⟩) ?_ ?_
               rotate_left
               ·intro w'
                go_simp
                with_reducible rfl
               rotate_left
               ·simp only [Act.put, HW.LA, HW.LZ, HW.LS, i64_w, i32_w]
                rfl
               refine pure_ (i := 21) (N := some 100) (v := ?_) (a' := ?_) #[true, true, true, true, true, true, true, true, true, true, true, true, true, true, true, true, true, true, true, true, true, true, false] rfl rfl (any_of HT_.out (by kernel_rfl)) (fun _ _ _ h => h) (Or.inl ⟨by rfl, ?_⟩) ?_ ?_
               rotate_left
               ·intro w'
                go_simp
                with_reducible rfl
               rotate_left
               ·simp only [Act.put, HW.LA, HW.LZ, HW.LS, i64_w, i32_w]
                rfl
               refine pure_ (i := 22) (N := some 6) (v := ?_) (a' := ?_) #[true, true, true, true, true, true, true, true, true, true, true, true, true, true, true, true, true, true, true, true, true, true, true] rfl rfl (any_of HT_.out (by kernel_rfl)) (fun _ _ _ h => h) (Or.inl ⟨by rfl, ?_⟩) ?_ ?_
               rotate_left
               ·intro w'
                go_simp
                with_reducible rfl
               rotate_left
               ·simp only [Act.put, HW.LA, HW.LZ, HW.LS, i64_w, i32_w]
                rfl
               refine done_ (done_of HT_.out (by kernel_rfl)) ?_
               try go_wp2
               go_ret
               exact ⟨by first | rfl | (simp [errW_none, errW_some] <;> rfl) | (simp only [← hji5]; first | rfl | (simp [errW_none, errW_some] <;> rfl)) | (simp [*, errW_none, errW_some] <;> rfl), by repeat (first | (with_reducible first | exact HB.out | apply below_alloc | apply pw_below_drewN | apply below_drew1 | refine below_set ?_ GE224.out) | exact HB.out)⟩
              ·replace c61 := Bool.eq_false_iff.mpr c61
               subst c61
               have H1 : (none) = some r := by rw [if_neg (show ¬ (false = true) by decide)] at H; exact H
               clear H
               have H := H1
               clear H1
               exact absurd H (by simp)
             ·rw [if_neg c60] at H
              have c60b0 : ((t245 == t233) == ((strOfNums x9_1).toList == (strOfNums y230).toList)) = false := by simpa using c60
              (try (have c60b1 : decide ((t245 == t233) = ((strOfNums x9_1).toList == (strOfNums y230).toList)) = false := by simpa using c60))
              (try (have c60b2 : ((t245 == t233) == ((strOfNums x9_1).toList == (strOfNums y230).toList)) = false := by simpa using c60))
              (try (have c60b3 : ¬ ((t245 == t233) = ((strOfNums x9_1).toList == (strOfNums y230).toList)) := by simpa using c60))
              clear c60
              exact absurd H (by simp)
            ·rw [if_neg c58] at H
             have c58b0 : decide (t233 ≤ 4294967295) = false := decide_eq_false c58
             clear c58
             exact absurd H (by simp)
           ·rw [if_neg c57] at H
            have c57b0 : decide (0 ≤ t233) = false := decide_eq_false c57
            clear c57
            exact absurd H (by simp)
      ·rw [if_neg c25] at H
       exact absurd H (by simp)
    ·replace c11 := Bool.eq_false_iff.mpr c11
     subst c11
     have H1 : (if t233 = 0 then (if t225 = true then (some true) else (none)) else (none)) = some r := by rw [if_neg (show ¬ (false = true) by decide)] at H; exact H
     clear H
     have H := H1
     clear H1
     by_cases c67 : t233 = 0
     ·rw [if_pos c67] at H
      have c67b0 : (t233 == 0) = true := beq_iff_eq.mpr c67
      have c67b1 : (t233 != 0) = false := bne_eq_false_iff_eq.mpr c67
      clear c67
      by_cases c68 : t225 = true
      ·subst c68
       have H1 : (some true) = some r := by rw [if_pos rfl] at H; exact H
       clear H
       have H := H1
       clear H1
       obtain rfl := Option.some.inj H
       go_enter Try.func7, Try.ntmps7
       (try simp only [List.append])
       go_wp2_with (first | ((with_reducible refine gate_store (t := 43) (p := 5) rfl ?_); refine HW.store_box5 rfl rfl 43 _ _ rfl rfl rfl BK224.out rfl (by kernel_rfl) rfl rfl rfl rfl rfl ?_; intro w1_ hw1_ hk1_; subst hw1_; have hcb224_0 := (blk_cell hk1_ 0).trans rfl; have hfb224_0 := blk_frozen hk1_ 0; have hcb224_1 := (blk_cell hk1_ 1).trans rfl; have hfb224_1 := blk_frozen hk1_ 1; have hcb224_2 := (blk_cell hk1_ 2).trans rfl; have hfb224_2 := blk_frozen hk1_ 2; have hcb224_3 := (blk_cell hk1_ 3).trans rfl; have hfb224_3 := blk_frozen hk1_ 3; have hcb224_4 := (blk_cell hk1_ 4).trans rfl; have hfb224_4 := blk_frozen hk1_ 4; clear hk1_) | ((with_reducible refine gate_dst (N := 5) rfl ?_); (try (refine gate_guard (by rfl) ?_; dsimp only)); refine box_event ?hg (N := 5) ?hd (cs := #[.int .u16 a2_0, .int .u8 a2_1, .int .u8 a2_2, .int .u8 a2_3, .int .u8 a2_4]) (t := 43) ?hr ?_; (case hd => rfl); (case hg => rfl); (case hr => first | (go_simp; done) | (go_simp; rfl)); intro gb224 hg w69 hbox hb; have n0_ := Aside0.mk (below_step (by repeat (first | (with_reducible first | exact HB.out | apply below_alloc | apply pw_below_drewN | apply below_drew1) | exact HB.out)) hb); have n1_ := Aside0.mk (hbox); have n2_ := Aside0.mk ((by rw [hg]; exact (below_size (by repeat (first | (with_reducible first | exact HB.out | apply below_alloc | apply pw_below_drewN | apply below_drew1) | exact HB.out))) : w.heap.size ≤ gb224)); have n3_ := Aside0.mk ((by rw [hg]; exact (below_size (by repeat (first | (with_reducible first | exact HB.out | apply below_alloc | apply pw_below_drewN | apply below_drew1) | exact HB.out))) : w.heap.size ≤ gb224)); clear HB; have HB := n0_; have BK224 := n1_; have GW224 := n2_; have GE224 := n3_; clear n0_ n1_ n2_ n3_; clear hb hbox hg) | ((with_reducible refine gate_callee (f := 11) rfl ?_); refine goesL_ (some 12) rfl rfl Try.func11 (by kernel_rfl) rfl #[] rfl (by (try simp only [List.map_toArray, List.map_cons, List.map_nil]); first | done | rfl | (simp only [List.length_drop, List.length_take]; rfl)) ?_; (with_reducible refine (phaetonlaw24_head.calls k  true _ A4.out).mono ?_); rintro e w70 ⟨rfl, hb⟩; refine ⟨_, rfl, ?_⟩; have n0_ := Aside0.mk (blk_below (g := gb224) (o := .cells #[.int .u16 a2_0, .int .u8 a2_1, .int .u8 a2_2, .int .u8 a2_3, .int .u8 a2_4] 43 (0, 0)) (by (with_reducible repeat (first | refine blk_drewN ?_ _ | refine blk_drew ?_ | refine blk_alloc ?_ _)); exact BK224.out) hb); have n1_ := Aside0.mk (below_step (by repeat (first | (with_reducible first | exact HB.out | apply below_alloc | apply pw_below_drewN | apply below_drew1 | refine below_set ?_ GE224.out) | exact HB.out)) hb); clear BK224; clear HB; have BK224 := n0_; have HB := n1_; clear n0_ n1_; (try clear hb); (try clear hb2); (try clear hk); (try clear hi)) | ((with_reducible refine gate_dst (N := 13) rfl ?_); (try (refine gate_guard (by rfl) ?_; dsimp only)); refine Kd.R_lit (Kd.int .u8) _ 5 ?hg (N := 13) ?hd (xs := ([] : List Int)) (inner := []) (ok := fun _ => True) (okp := fun _ => True) ?hr ?hp (fun _ hk => hk) trivial (Below.refl _ _) (Nat.le_refl _) (by simp) ?_; (case hd => rfl); (case hg => rfl); (case hr => first | (go_simp; done) | (go_simp; rfl)); (case hp => exact (Reps.none _ _)); intro v227 w71 ho72 hb hg_ hnew_; clear hg_ hnew_; (first | rw [← Ny226.out] at ho72 | (simp only [Int.reduceToNat] at ho72; rw [← Ny226.out] at ho72)); have n0_ := Aside0.mk (Kd.R_lower ho72 (below_size (by repeat (first | (with_reducible first | exact HB.out | apply below_alloc | apply pw_below_drewN | apply below_drew1 | refine below_set ?_ GE224.out) | exact HB.out)))); have n1_ := Aside0.mk (blk_below (g := gb224) (o := .cells #[.int .u16 a2_0, .int .u8 a2_1, .int .u8 a2_2, .int .u8 a2_3, .int .u8 a2_4] 43 (0, 0)) (by (with_reducible repeat (first | refine blk_drewN ?_ _ | refine blk_drew ?_ | refine blk_alloc ?_ _)); exact BK224.out) hb); have n2_ := Aside0.mk (below_step (by repeat (first | (with_reducible first | exact HB.out | apply below_alloc | apply pw_below_drewN | apply below_drew1 | refine below_set ?_ GE224.out) | exact HB.out)) hb); clear BK224; clear HB; have HO228 := n0_; have BK224 := n1_; have HB := n2_; clear n0_ n1_ n2_; clear hb ho72; obtain ⟨i073, hi073, _, hsz73, _⟩ := info_parts info5; obtain ⟨hcut73, hA73, hC73⟩ := print_take_of (P := Try.prog) (Value.int .u8) 0 22 5 .i64 Try.underlying22 hi073 hsz73 A0 c0 l0 (ji5) (of_decide_eq_true (by first | (with_reducible assumption) | assumption)) (of_decide_eq_true (by first | (with_reducible assumption) | assumption)) HC0.out; have HR229 := Aside0.mk (Kd.C_of_reads (h1 := fun _ => rfl) (hA73 _ (Kd.reads_of_C HR0.out))); have HC229 := Aside0.mk hC73; clear hA73 hC73 hi073 hsz73) | ((with_reducible refine gate_builtin (b := .append) (xs := #[.tmp 13, .tmp 18]) rfl ?_); (try (refine gate_guard (by rfl) ?_; dsimp only)); at_builtin; refine Kd.R_append_rows (Kd.int .u8) (w0 := w) w.heap.size rfl (.tmp 13) (.tmp 18) 22 5 (.int .u8 0) 1 rfl Try.underlying22 info5 rfl (by decide) (by omega) v227 y226 (l0.take ((ji5) : Int).toNat) _ _ _ (fun _ => True) (fun _ => False) rfl rfl ?aO ?aR (fun _ _ h => h) (fun _ h => h.elim) ?aF ?aB ?aS ?aL ?_; (case aR => first | (refine Eq.mp (congrArg (fun n_ => ReadsRow _ _ _ _ n_ _) (show (l0.take ((ji5) : Int).toNat).length = (ji5).toNat from (by rw [List.length_take]; have h_ : ((ji5) : Int) ≤ (l0.length : Int) := of_decide_eq_true (by first | (with_reducible assumption) | assumption); omega))) ?_; repeat (first | exact (Kd.C_below HR229.out HB.out) | (with_reducible refine Kd.C_alloc ?_ _) | (with_reducible refine Kd.C_drewN ?_ _) | (with_reducible refine Kd.C_drew ?_)); done) | (rw [← show (l0.take ((ji5) : Int).toNat).length = (ji5).toNat from (by rw [List.length_take]; have h_ : ((ji5) : Int) ≤ (l0.length : Int) := of_decide_eq_true (by first | (with_reducible assumption) | assumption); omega)]; repeat (first | exact (Kd.C_below HR229.out HB.out) | (with_reducible refine Kd.C_alloc ?_ _) | (with_reducible refine Kd.C_drewN ?_ _) | (with_reducible refine Kd.C_drew ?_))) | (repeat (first | exact (Kd.C_below HR229.out HB.out) | (with_reducible refine Kd.C_alloc ?_ _) | (with_reducible refine Kd.C_drewN ?_ _) | (with_reducible refine Kd.C_drew ?_)))); (case aB => exact (by repeat (first | (with_reducible first | exact HB.out | apply below_alloc | apply pw_below_drewN | apply below_drew1 | refine below_set ?_ GE224.out) | exact HB.out))); (case aF => exact (fun _ _ => trivial)); (case aO => exact (by (with_reducible repeat (first | apply Kd.R_alloc | apply Kd.R_drewN | apply Kd.R_drew)); exact HO228.out)); (case aS => exact (below_size (by repeat (first | (with_reducible first | exact HB.out | apply below_alloc | apply pw_below_drewN | apply below_drew1 | refine below_set ?_ GE224.out) | exact HB.out)))); (case aL => have := LMc8.out; have hlx_ := (show (l0.take ((ji5) : Int).toNat).length = (ji5).toNat from (by rw [List.length_take]; have h_ : ((ji5) : Int) ≤ (l0.length : Int) := of_decide_eq_true (by first | (with_reducible assumption) | assumption); omega)); omega); intro v231 w74 ho hb hg hat; rw [← Ny230.out] at ho; have n0_ := Aside0.mk (blk_grown (g := gb224) (o := .cells #[.int .u16 a2_0, .int .u8 a2_1, .int .u8 a2_2, .int .u8 a2_3, .int .u8 a2_4] 43 (0, 0)) (by (with_reducible repeat (first | refine blk_drewN ?_ _ | refine blk_drew ?_ | refine blk_alloc ?_ _)); exact BK224.out) hg (Kd.R_ne HO228.out BK224.out (by decide))); have n1_ := Aside0.mk (hb); have n2_ := Aside0.mk (ho); clear BK224; clear HB; clear HO228; have BK224 := n0_; have HB := n1_; have HO232 := n2_; clear n0_ n1_ n2_; clear ho hb hg hat; obtain ⟨Ao75, co75, eo75⟩ := Kd.R_slice HO232.out; subst eo75) | ((with_reducible refine gate_callee (f := 20) rfl ?_); refine goesL_ (some 22) rfl rfl Try.func20 (by kernel_rfl) rfl #[.slice Ao75 y230.length co75, .int .i64 a1] rfl (by (try simp only [List.map_toArray, List.map_cons, List.map_nil]); first | done | rfl | (simp only [List.length_drop, List.length_take]; rfl)) ?_; (with_reducible refine (image_Seal.calls k _ _ y230 a1 t233 _ ?side1 ?side2 A9.out).mono ?_); (case side1 => repeat (first | exact (Kd.R_reads' HO232.out).2.2 | (with_reducible refine Kd.C_alloc ?_ _) | (with_reducible refine Kd.C_drewN ?_ _) | (with_reducible refine Kd.C_drew ?_))); (case side2 => exact (Kd.R_reads' HO232.out).2.1); rintro e w76 ⟨rfl, hb⟩; refine ⟨_, rfl, ?_⟩; have n0_ := Aside0.mk (Kd.R_below (by (with_reducible repeat (first | apply Kd.R_alloc | apply Kd.R_drewN | apply Kd.R_drew)); exact HO232.out) hb); have n1_ := Aside0.mk (blk_below (g := gb224) (o := .cells #[.int .u16 a2_0, .int .u8 a2_1, .int .u8 a2_2, .int .u8 a2_3, .int .u8 a2_4] 43 (0, 0)) (by (with_reducible repeat (first | refine blk_drewN ?_ _ | refine blk_drew ?_ | refine blk_alloc ?_ _)); exact BK224.out) hb); have n2_ := Aside0.mk (below_step (by repeat (first | (with_reducible first | exact HB.out | apply below_alloc | apply pw_below_drewN | apply below_drew1 | refine below_set ?_ GE224.out) | exact HB.out)) hb); clear HO232; clear BK224; clear HB; have HO232 := n0_; have BK224 := n1_; have HB := n2_; clear n0_ n1_ n2_; (try clear hb); (try clear hb2); (try clear hk); (try clear hi)) | ((with_reducible refine gate_callee (f := 25) rfl ?_); refine goesL_ (some 24) rfl rfl Try.func25 (by kernel_rfl) rfl #[.int .i64 a1] rfl (by (try simp only [List.map_toArray, List.map_cons, List.map_nil]); first | done | rfl | (simp only [List.length_drop, List.length_take]; rfl)) ?_; (with_reducible refine (phaetonref24_May.calls a1 false _ A10.out).mono ?_); rintro e w' ⟨rfl, ⟨nd, rfl⟩⟩; refine ⟨_, rfl, ?_⟩))
       go_ret
       exact ⟨by first | rfl | (simp [errW_none, errW_some] <;> rfl) | (simp only [← hji5]; first | rfl | (simp [errW_none, errW_some] <;> rfl)) | (simp [*, errW_none, errW_some] <;> rfl), by repeat (first | (with_reducible first | exact HB.out | apply below_alloc | apply pw_below_drewN | apply below_drew1 | refine below_set ?_ GE224.out) | exact HB.out)⟩
      ·replace c68 := Bool.eq_false_iff.mpr c68
       subst c68
       have H1 : (none) = some r := by rw [if_neg (show ¬ (false = true) by decide)] at H; exact H
       clear H
       have H := H1
       clear H1
       exact absurd H (by simp)
     ·rw [if_neg c67] at H
      exact absurd H (by simp)
   ·rw [if_neg c8] at H
    exact absurd H (by simp)
  ·rw [if_neg c7] at H
   exact absurd H (by simp)
 ·rw [if_neg c6] at H
  exact absurd H (by simp)

/-- THE ONE PURE STATEMENT of phaetonlaw24_ImageSeal. -/
def phaetonlaw24_ImageSeal.Pure : Prop := ∀ (l0 : List Int) (a1 : Int) (a2_0 : Int) (a2_1 : Int) (a2_2 : Int) (a2_3 : Int) (a2_4 : Int), l0.length ≤ maxLen → l0.length * 1 ≤ 140737488351232 → (∀ x ∈ l0, (fun (x : Int) => (Lit.int .u8 x).wf = true) x) → (Lit.int .i64 a1).wf = true → (Lit.int .u16 a2_0).wf = true → (Lit.int .u8 a2_1).wf = true → (Lit.int .u8 a2_2).wf = true → (Lit.int .u8 a2_3).wf = true → (Lit.int .u8 a2_4).wf = true → ∃ k, phaetonlaw24_ImageSeal.f k l0 a1 a2_0 a2_1 a2_2 a2_3 a2_4 = some true
theorem phaetonlaw24_ImageSeal.walk (P : phaetonlaw24_ImageSeal.Pure) (A0 : Option Addr) (c0 : Nat) (l0 : List Int) (a1 : Int) (a2_0 : Int) (a2_1 : Int) (a2_2 : Int) (a2_3 : Int) (a2_4 : Int) (w : World) (y0 : l0.length * 1 ≤ 140737488351232) (hw0 : ∀ x ∈ l0, (fun (x : Int) => (Lit.int .u8 x).wf = true) x) (hr0 : Kd.C (Kd.int .u8) w A0 l0.length l0) (hc0 : l0.length ≤ c0) (hw1 : (Lit.int .i64 a1).wf = true) (hw2_0 : (Lit.int .u16 a2_0).wf = true) (hw2_1 : (Lit.int .u8 a2_1).wf = true) (hw2_2 : (Lit.int .u8 a2_2).wf = true) (hw2_3 : (Lit.int .u8 a2_3).wf = true) (hw2_4 : (Lit.int .u8 a2_4).wf = true) :
  Calls Try.prog 7 #[.slice A0 l0.length c0, .int .i64 a1, .agg #[.int .u16 a2_0, .int .u8 a2_1, .int .u8 a2_2, .int .u8 a2_3, .int .u8 a2_4]] w fun e w' => e = .returned (.bool true) ∧ Below w.heap.size w w' := by
 obtain ⟨k, h⟩ := P l0 a1 a2_0 a2_1 a2_2 a2_3 a2_4 (by have := hr0.2.1; unfold maxLen; omega) y0 hw0 hw1 hw2_0 hw2_1 hw2_2 hw2_3 hw2_4
 refine (phaetonlaw24_ImageSeal.calls k _ _ l0 a1 a2_0 a2_1 a2_2 a2_3 a2_4 true w hr0 hc0 h).mono ?_
 rintro e w' ⟨rfl, hd⟩
 exact ⟨rfl, hd⟩

end Go.Proofs.Ytfgbcpdlhdgofaa.Px

-- Written by myprint.py, a program of this session's, over the kit's print.py; not a text of print.sh's own.
import Derived.Test.YtcdbndjicjghgaaPx0
import Derived.Test.YtcdbndjicjghgaaPx2
import Derived.Test.YtcdbndjicjghgaaPx3
import Derived.Test.YtcdbndjicjghgaaPx5
namespace Go.Proofs.Ytcdbndjicjghgaa.Px
open Go.RowKit Go.Proofs.YtcdbndjicjghgaaW.PrintWords Go.Proofs.YtcdbndjicjghgaaW.PrintLast Go.Proofs.YtcdbndjicjghgaaW.PrintMore
attribute [local go_sem] max2_int min2_int max_two min_two max_three min_three max_four min_four   -- for this text's walks alone
set_option linter.unusedVariables false
set_option linter.unusedSimpArgs false

/-! ### phaetonlaw06_ArbOrder: function 6 -/
mutual
def phaetonlaw06_ArbOrder.j0 : Nat → List (S35) → Int → List Bool → Bool → Int → Bool → Option (Bool)
  | 0, _, _, _, _, _, _ => none
  | k + 1, x0, x1, x2, x7, x8, x34 => if x34 = true then (none) else (if (x0.length : Int) = 0 then (none) else (if 0 ≤ x8 then (if x8 < (x0.length : Int) then ((some (([] : List (S35)) : List (S35))).bind fun y368 => (if 0 ≤ (Int.tmod (wrap64 (x1)) (x0.length : Int)) then (if (Int.tmod (wrap64 (x1)) (x0.length : Int)) ≤ (x0.length : Int) then ((some (x0.drop ((Int.tmod (wrap64 (x1)) (x0.length : Int)) : Int).toNat : List (S35))).bind fun y371 => (if y368.length + y371.length < 2513169434916 then ((some (y368 ++ y371 : List (S35))).bind fun y376 => ((some (x0.take ((Int.tmod (wrap64 (x1)) (x0.length : Int)) : Int).toNat : List (S35))).bind fun y379 => (if y376.length + y379.length < 2513169434916 then (phaetonlaw06_ArbOrder.l0 k x0 x2 x7 x8 (([(⟨(rd_T35 x0 x8).f0, (rd_T35 x0 x8).f1, (rd_T35 x0 x8).f2, (rd_T35 x0 x8).f3, (rd_T35 x0 x8).f4⟩ : S35)] : List (S35))) (y376 ++ y379) 0) else (none)))) else (none))) else (none)) else (none))) else (none)) else (none)))
def phaetonlaw06_ArbOrder.l0 : Nat → List (S35) → List Bool → Bool → Int → List (S35) → List (S35) → Int → Option (Bool)
  | 0, _, _, _, _, _, _, _ => none
  | k + 1, x0, x2, x7, x8, x10, x11, x12 => if x12 < (x0.length : Int) then (phaetonlaw06_ArbOrder.j2 k x0 x2 x7 x8 x10 x11 x12 (decide (x12 < (x2.length : Int)))) else (phaetonlaw06_ArbOrder.j2 k x0 x2 x7 x8 x10 x11 x12 false)
def phaetonlaw06_ArbOrder.j2 : Nat → List (S35) → List Bool → Bool → Int → List (S35) → List (S35) → Int → Bool → Option (Bool)
  | 0, _, _, _, _, _, _, _, _ => none
  | k + 1, x0, x2, x7, x8, x10, x11, x12, x64 => if x64 = true then (if 0 ≤ x12 then (if x12 < (x2.length : Int) then (if rdOf false x2 x12 = true then (if x12 < (x0.length : Int) then (if x10.length < 2513169434916 then (phaetonlaw06_ArbOrder.l0 k x0 x2 x7 x8 (x10 ++ [(⟨(rd_T35 x0 x12).f0, (rd_T35 x0 x12).f1, (rd_T35 x0 x12).f2, (rd_T35 x0 x12).f3, (rd_T35 x0 x12).f4⟩ : S35)]) x11 (wrap64 (x12 + 1))) else (none)) else (none)) else (phaetonlaw06_ArbOrder.l0 k x0 x2 x7 x8 x10 x11 (wrap64 (x12 + 1)))) else (none)) else (none)) else ((arb_Win.f x11).bind fun t392 => (if t392 < 0 then (phaetonlaw06_ArbOrder.j3 k x0 x7 x10 x11 true) else (if t392 ≥ (x11.length : Int) then (phaetonlaw06_ArbOrder.j3 k x0 x7 x10 x11 true) else (if 0 ≤ t392 then (if t392 < (x11.length : Int) then ((phaetonref06_Rank.f k ((rd_T35 x11 t392).f0) ((rd_T35 x11 t392).f1) ((rd_T35 x11 t392).f2) ((rd_T35 x11 t392).f3) ((rd_T35 x11 t392).f4)).bind fun t394 => (if 0 ≤ x8 then (if x8 < (x0.length : Int) then ((phaetonref06_Rank.f k ((rd_T35 x0 x8).f0) ((rd_T35 x0 x8).f1) ((rd_T35 x0 x8).f2) ((rd_T35 x0 x8).f3) ((rd_T35 x0 x8).f4)).bind fun t398 => ((phaetonref03_Ints.f k t394 t398).bind fun t401 => (phaetonlaw06_ArbOrder.j3 k x0 x7 x10 x11 (!t401)))) else (none)) else (none))) else (none)) else (none)))))
def phaetonlaw06_ArbOrder.j3 : Nat → List (S35) → Bool → List (S35) → List (S35) → Bool → Option (Bool)
  | 0, _, _, _, _, _ => none
  | k + 1, x0, x7, x10, x11, x101 => if x101 = true then (none) else ((arb_Win.f x10).bind fun t402 => (if t402 = 0 then ((arb_Line.f x11).bind fun t403 => ((arb_Line.f x0).bind fun t406 => ((phaetonref03_Ints.f k t403 t406).bind fun t409 => (if t409 = true then ((arb_Line.f x10).bind fun t410 => ((arb_Line.f x0).bind fun t413 => ((phaetonref03_Ints.f k t410 t413).bind fun t416 => (if t416 = true then (if x7 = true then (some true) else (none)) else (none))))) else (none))))) else (none)))
end
def phaetonlaw06_ArbOrder.f (k : Nat) (l0 : List (S35)) (a1 : Int) (l2 : List Bool) : Option (Bool) := (phaetonlaw06_head.f k).bind fun t359 => ((phaetonref06_Frames.f k l0 10).bind fun t360 => ((arb_Win.f t360).bind fun t363 => (if (t360.length : Int) = 0 then (if t363 = (-1) then (if t359 = true then (some true) else (none)) else (none)) else (if t363 < 0 then (phaetonlaw06_ArbOrder.j0 k t360 a1 l2 t359 t363 true) else (phaetonlaw06_ArbOrder.j0 k t360 a1 l2 t359 t363 (decide (t363 ≥ (t360.length : Int))))))))
theorem phaetonlaw06_ArbOrder.mono_l : ∀ k, (∀ y0 y1 y2 y3 y4 y5, LeO (phaetonlaw06_ArbOrder.j0 k y0 y1 y2 y3 y4 y5) (phaetonlaw06_ArbOrder.j0 (k + 1) y0 y1 y2 y3 y4 y5)) ∧ (∀ y0 y1 y2 y3 y4 y5 y6, LeO (phaetonlaw06_ArbOrder.l0 k y0 y1 y2 y3 y4 y5 y6) (phaetonlaw06_ArbOrder.l0 (k + 1) y0 y1 y2 y3 y4 y5 y6)) ∧ (∀ y0 y1 y2 y3 y4 y5 y6 y7, LeO (phaetonlaw06_ArbOrder.j2 k y0 y1 y2 y3 y4 y5 y6 y7) (phaetonlaw06_ArbOrder.j2 (k + 1) y0 y1 y2 y3 y4 y5 y6 y7)) ∧ (∀ y0 y1 y2 y3 y4, LeO (phaetonlaw06_ArbOrder.j3 k y0 y1 y2 y3 y4) (phaetonlaw06_ArbOrder.j3 (k + 1) y0 y1 y2 y3 y4))
  | 0 => ⟨fun _ _ _ _ _ _ r h => by simp [phaetonlaw06_ArbOrder.j0] at h, fun _ _ _ _ _ _ _ r h => by simp [phaetonlaw06_ArbOrder.l0] at h, fun _ _ _ _ _ _ _ _ r h => by simp [phaetonlaw06_ArbOrder.j2] at h, fun _ _ _ _ _ r h => by simp [phaetonlaw06_ArbOrder.j3] at h⟩
  | k + 1 => by
    obtain ⟨ih0, ih1, ih2, ih3⟩ := phaetonlaw06_ArbOrder.mono_l k
    refine ⟨?_, ?_, ?_, ?_⟩
    · intro y0 y1 y2 y3 y4 y5
      unfold phaetonlaw06_ArbOrder.j0
      repeat' first
      | (with_reducible exact ih0 _ _ _ _ _ _)
      | (with_reducible exact ih1 _ _ _ _ _ _ _)
      | (with_reducible exact ih2 _ _ _ _ _ _ _ _)
      | (with_reducible exact ih3 _ _ _ _ _)
      | (with_reducible exact phaetonlaw06_head.mono _)
      | (with_reducible exact phaetonref03_Ints.mono _ _ _)
      | (with_reducible exact phaetonref06_Frames.mono _ _ _)
      | (with_reducible exact phaetonref06_Rank.mono _ _ _ _ _ _)
      | (with_reducible exact LeO.refl _)
      | (with_reducible exact LeO.none _)
      | (with_reducible refine LeO.ite ?_ ?_)
      | (with_reducible refine LeO.bind ?_ (fun _ => ?_))
      | exact ih0 _ _ _ _ _ _
      | exact ih1 _ _ _ _ _ _ _
      | exact ih2 _ _ _ _ _ _ _ _
      | exact ih3 _ _ _ _ _
      | exact phaetonlaw06_head.mono _
      | exact phaetonref03_Ints.mono _ _ _
      | exact phaetonref06_Frames.mono _ _ _
      | exact phaetonref06_Rank.mono _ _ _ _ _ _
      | exact LeO.none _
      | refine LeO.ite ?_ ?_
      | refine LeO.bind ?_ (fun _ => ?_)
    · intro y0 y1 y2 y3 y4 y5 y6
      unfold phaetonlaw06_ArbOrder.l0
      repeat' first
      | (with_reducible exact ih0 _ _ _ _ _ _)
      | (with_reducible exact ih1 _ _ _ _ _ _ _)
      | (with_reducible exact ih2 _ _ _ _ _ _ _ _)
      | (with_reducible exact ih3 _ _ _ _ _)
      | (with_reducible exact phaetonlaw06_head.mono _)
      | (with_reducible exact phaetonref03_Ints.mono _ _ _)
      | (with_reducible exact phaetonref06_Frames.mono _ _ _)
      | (with_reducible exact phaetonref06_Rank.mono _ _ _ _ _ _)
      | (with_reducible exact LeO.refl _)
      | (with_reducible exact LeO.none _)
      | (with_reducible refine LeO.ite ?_ ?_)
      | (with_reducible refine LeO.bind ?_ (fun _ => ?_))
      | exact ih0 _ _ _ _ _ _
      | exact ih1 _ _ _ _ _ _ _
      | exact ih2 _ _ _ _ _ _ _ _
      | exact ih3 _ _ _ _ _
      | exact phaetonlaw06_head.mono _
      | exact phaetonref03_Ints.mono _ _ _
      | exact phaetonref06_Frames.mono _ _ _
      | exact phaetonref06_Rank.mono _ _ _ _ _ _
      | exact LeO.none _
      | refine LeO.ite ?_ ?_
      | refine LeO.bind ?_ (fun _ => ?_)
    · intro y0 y1 y2 y3 y4 y5 y6 y7
      unfold phaetonlaw06_ArbOrder.j2
      repeat' first
      | (with_reducible exact ih0 _ _ _ _ _ _)
      | (with_reducible exact ih1 _ _ _ _ _ _ _)
      | (with_reducible exact ih2 _ _ _ _ _ _ _ _)
      | (with_reducible exact ih3 _ _ _ _ _)
      | (with_reducible exact phaetonlaw06_head.mono _)
      | (with_reducible exact phaetonref03_Ints.mono _ _ _)
      | (with_reducible exact phaetonref06_Frames.mono _ _ _)
      | (with_reducible exact phaetonref06_Rank.mono _ _ _ _ _ _)
      | (with_reducible exact LeO.refl _)
      | (with_reducible exact LeO.none _)
      | (with_reducible refine LeO.ite ?_ ?_)
      | (with_reducible refine LeO.bind ?_ (fun _ => ?_))
      | exact ih0 _ _ _ _ _ _
      | exact ih1 _ _ _ _ _ _ _
      | exact ih2 _ _ _ _ _ _ _ _
      | exact ih3 _ _ _ _ _
      | exact phaetonlaw06_head.mono _
      | exact phaetonref03_Ints.mono _ _ _
      | exact phaetonref06_Frames.mono _ _ _
      | exact phaetonref06_Rank.mono _ _ _ _ _ _
      | exact LeO.none _
      | refine LeO.ite ?_ ?_
      | refine LeO.bind ?_ (fun _ => ?_)
    · intro y0 y1 y2 y3 y4
      unfold phaetonlaw06_ArbOrder.j3
      repeat' first
      | (with_reducible exact ih0 _ _ _ _ _ _)
      | (with_reducible exact ih1 _ _ _ _ _ _ _)
      | (with_reducible exact ih2 _ _ _ _ _ _ _ _)
      | (with_reducible exact ih3 _ _ _ _ _)
      | (with_reducible exact phaetonlaw06_head.mono _)
      | (with_reducible exact phaetonref03_Ints.mono _ _ _)
      | (with_reducible exact phaetonref06_Frames.mono _ _ _)
      | (with_reducible exact phaetonref06_Rank.mono _ _ _ _ _ _)
      | (with_reducible exact LeO.refl _)
      | (with_reducible exact LeO.none _)
      | (with_reducible refine LeO.ite ?_ ?_)
      | (with_reducible refine LeO.bind ?_ (fun _ => ?_))
      | exact ih0 _ _ _ _ _ _
      | exact ih1 _ _ _ _ _ _ _
      | exact ih2 _ _ _ _ _ _ _ _
      | exact ih3 _ _ _ _ _
      | exact phaetonlaw06_head.mono _
      | exact phaetonref03_Ints.mono _ _ _
      | exact phaetonref06_Frames.mono _ _ _
      | exact phaetonref06_Rank.mono _ _ _ _ _ _
      | exact LeO.none _
      | refine LeO.ite ?_ ?_
      | refine LeO.bind ?_ (fun _ => ?_)
theorem phaetonlaw06_ArbOrder.mono : ∀ a0 a1 a2 k, LeO (phaetonlaw06_ArbOrder.f k a0 a1 a2) (phaetonlaw06_ArbOrder.f (k + 1) a0 a1 a2) := by
  intro a0 a1 a2 k
  obtain ⟨ih0, ih1, ih2, ih3⟩ := phaetonlaw06_ArbOrder.mono_l k
  unfold phaetonlaw06_ArbOrder.f
  repeat' first
      | (with_reducible exact ih0 _ _ _ _ _ _)
      | (with_reducible exact ih1 _ _ _ _ _ _ _)
      | (with_reducible exact ih2 _ _ _ _ _ _ _ _)
      | (with_reducible exact ih3 _ _ _ _ _)
      | (with_reducible exact phaetonlaw06_head.mono _)
      | (with_reducible exact phaetonref03_Ints.mono _ _ _)
      | (with_reducible exact phaetonref06_Frames.mono _ _ _)
      | (with_reducible exact phaetonref06_Rank.mono _ _ _ _ _ _)
      | (with_reducible exact LeO.refl _)
      | (with_reducible exact LeO.none _)
      | (with_reducible refine LeO.ite ?_ ?_)
      | (with_reducible refine LeO.bind ?_ (fun _ => ?_))
      | exact ih0 _ _ _ _ _ _
      | exact ih1 _ _ _ _ _ _ _
      | exact ih2 _ _ _ _ _ _ _ _
      | exact ih3 _ _ _ _ _
      | exact phaetonlaw06_head.mono _
      | exact phaetonref03_Ints.mono _ _ _
      | exact phaetonref06_Frames.mono _ _ _
      | exact phaetonref06_Rank.mono _ _ _ _ _ _
      | exact LeO.none _
      | refine LeO.ite ?_ ?_
      | refine LeO.bind ?_ (fun _ => ?_)
def phaetonlaw06_ArbOrder.T8 : Bool × List (List Nat × List Nat) := (true, [([], []), ([0], [0]), ([], []), ([2], [2]), ([1, 3], [1, 3]), ([], []), ([], []), ([5, 6], [5, 6]), ([7], [7]), ([8], [8]), ([4, 0, 1, 2, 3, 4], [4]), ([9, 10, 0, 1, 2, 3, 4, 5, 6, 7, 8, 9, 10], [9])])
def phaetonlaw06_ArbOrder.B8 : List Nat := [0, 1, 0, 4, 15, 0, 0, 96, 224, 480, 31, 2047]
theorem phaetonlaw06_ArbOrder.tab8 : rtab .any (opsOf Try.f6 8) = phaetonlaw06_ArbOrder.T8 := by kernel_rfl
theorem phaetonlaw06_ArbOrder.bits8 : waitsOk phaetonlaw06_ArbOrder.T8.2 phaetonlaw06_ArbOrder.B8 = true := by kernel_rfl
def phaetonlaw06_ArbOrder.T17 : Bool × List (List Nat × List Nat) := (true, [([], []), ([0], [0]), ([1], [1]), ([2], [2]), ([2], [2]), ([4, 2], [2, 4]), ([3, 5, 2], [2, 3, 5]), ([2, 6], [2, 6]), ([7, 2], [7]), ([8], [8]), ([8], [8]), ([9, 10, 8], [8, 9, 10]), ([11, 8], [8, 11]), ([12, 8, 8], [8, 12]), ([8], [8]), ([8], [8]), ([14, 15, 8], [8, 14, 15]), ([16, 8], [8, 16]), ([17, 13, 8], [8, 17]), ([13, 18, 18, 8], [8, 13, 18]), ([19, 8], [8, 19]), ([8, 20], [8, 20])])
def phaetonlaw06_ArbOrder.B17 : List Nat := [0, 1, 3, 7, 7, 23, 63, 127, 255, 511, 511, 2047, 4095, 8191, 511, 511, 49663, 115199, 262143, 524287, 1048575, 2097151]
theorem phaetonlaw06_ArbOrder.tab17 : rtab .any (opsOf Try.f6 17) = phaetonlaw06_ArbOrder.T17 := by kernel_rfl
theorem phaetonlaw06_ArbOrder.bits17 : waitsOk phaetonlaw06_ArbOrder.T17.2 phaetonlaw06_ArbOrder.B17 = true := by kernel_rfl
set_option maxHeartbeats 8000000 in
set_option maxRecDepth 100000 in
theorem phaetonlaw06_ArbOrder.calls (k : Nat) (A0 : Option Addr) (c0 : Nat) (l0 : List (S35)) (a1 : Int) (A2 : Option Addr) (c2 : Nat) (l2 : List Bool) (r : Bool) (w : World) (hr0 : Kd.C k35 w A0 l0.length l0) (hc0 : l0.length ≤ c0) (hr2 : Kd.C Kd.bool w A2 l2.length l2) (hc2 : l2.length ≤ c2) (h : phaetonlaw06_ArbOrder.f k l0 a1 l2 = some r) :
    Calls Try.prog 6 #[.slice A0 l0.length c0, .int .u8 a1, .slice A2 l2.length c2] w fun e w' => e = .returned (.bool r) ∧ Below w.heap.size w w' := by
  have hu35 := Try.underlying35
  have HR0 := Aside0.mk hr0
  have HC0 := Aside0.mk hc0
  clear hr0 hc0
  have HR2 := Aside0.mk hr2
  have HC2 := Aside0.mk hc2
  clear hr2 hc2
  have HB := Aside0.mk (Below.refl w.heap.size w)
  have H : ((phaetonlaw06_head.f k).bind fun t359 => ((phaetonref06_Frames.f k l0 10).bind fun t360 => ((arb_Win.f t360).bind fun t363 => (if (t360.length : Int) = 0 then (if t363 = (-1) then (if t359 = true then (some true) else (none)) else (none)) else (if t363 < 0 then (phaetonlaw06_ArbOrder.j0 k t360 a1 l2 t359 t363 true) else (phaetonlaw06_ArbOrder.j0 k t360 a1 l2 t359 t363 (decide (t363 ≥ (t360.length : Int))))))))) = some r := h
  clear h
  replace H := Option.bind_eq_some_iff.mp H
  obtain ⟨t359, A40, H⟩ := H
  replace H : ((phaetonref06_Frames.f k l0 10).bind fun t360 => ((arb_Win.f t360).bind fun t363 => (if (t360.length : Int) = 0 then (if t363 = (-1) then (if t359 = true then (some true) else (none)) else (none)) else (if t363 < 0 then (phaetonlaw06_ArbOrder.j0 k t360 a1 l2 t359 t363 true) else (phaetonlaw06_ArbOrder.j0 k t360 a1 l2 t359 t363 (decide (t363 ≥ (t360.length : Int)))))))) = some r := H
  have A4 := Aside0.mk A40
  clear A40
  replace H := Option.bind_eq_some_iff.mp H
  obtain ⟨t360, A50, H⟩ := H
  replace H : ((arb_Win.f t360).bind fun t363 => (if (t360.length : Int) = 0 then (if t363 = (-1) then (if t359 = true then (some true) else (none)) else (none)) else (if t363 < 0 then (phaetonlaw06_ArbOrder.j0 k t360 a1 l2 t359 t363 true) else (phaetonlaw06_ArbOrder.j0 k t360 a1 l2 t359 t363 (decide (t363 ≥ (t360.length : Int))))))) = some r := H
  have A5 := Aside0.mk A50
  clear A50
  replace H := Option.bind_eq_some_iff.mp H
  obtain ⟨t363, A60, H⟩ := H
  replace H : (if (t360.length : Int) = 0 then (if t363 = (-1) then (if t359 = true then (some true) else (none)) else (none)) else (if t363 < 0 then (phaetonlaw06_ArbOrder.j0 k t360 a1 l2 t359 t363 true) else (phaetonlaw06_ArbOrder.j0 k t360 a1 l2 t359 t363 (decide (t363 ≥ (t360.length : Int)))))) = some r := H
  have A6 := Aside0.mk A60
  clear A60
  by_cases c7 : (t360.length : Int) = 0
  · rw [if_pos c7] at H
    have c7b0 : ((t360.length : Int) == 0) = true := beq_iff_eq.mpr c7
    have c7b1 : ((t360.length : Int) != 0) = false := bne_eq_false_iff_eq.mpr c7
    clear c7
    by_cases c8 : t363 = (-1)
    · rw [if_pos c8] at H
      have c8b0 : (t363 == (-1)) = true := beq_iff_eq.mpr c8
      have c8b1 : (t363 != (-1)) = false := bne_eq_false_iff_eq.mpr c8
      clear c8
      by_cases c9 : t359 = true
      · subst c9
        have H1 : (some true) = some r := by rw [if_pos rfl] at H; exact H
        clear H
        have H := H1
        clear H1
        obtain rfl := Option.some.inj H
        go_enter Try.func6, Try.ntmps6
        (try simp only [List.append])
        go_wp2_with (first | ((with_reducible refine gate_callee (f := 11) rfl ?_); refine goesL_ (some 14) rfl rfl Try.func11 (by kernel_rfl) rfl #[] rfl (by (try simp only [List.map_toArray, List.map_cons, List.map_nil]); first | done | rfl | (simp only [List.length_drop, List.length_take]; rfl)) ?_; (with_reducible refine (phaetonlaw06_head.calls k  true _ A4.out).mono ?_); rintro e w10 ⟨rfl, hb⟩; refine ⟨_, rfl, ?_⟩; have n0_ := Aside0.mk (below_step (by repeat (first | (with_reducible first | exact HB.out | apply below_alloc | apply pw_below_drewN | apply below_drew1) | exact HB.out)) hb); clear HB; have HB := n0_; clear n0_; (try clear hb); (try clear hb2); (try clear hk); (try clear hi)) | ((with_reducible refine gate_callee (f := 12) rfl ?_); refine goesL_ (some 16) rfl rfl Try.func12 (by kernel_rfl) rfl #[.slice A0 l0.length c0, .int .i64 10] rfl (by (try simp only [List.map_toArray, List.map_cons, List.map_nil]); first | done | rfl | (simp only [List.length_drop, List.length_take]; rfl)) ?_; (with_reducible refine (phaetonref06_Frames.calls k _ _ l0 10 t360 _ ?side1 ?side2 A5.out).mono ?_); (case side1 => repeat (first | exact (Kd.C_below HR0.out HB.out) | (with_reducible refine Kd.C_alloc ?_ _) | (with_reducible refine Kd.C_drewN ?_ _) | (with_reducible refine Kd.C_drew ?_))); (case side2 => exact HC0.out); rintro e w11 ⟨v361, rfl, ho0, hb⟩; refine ⟨_, rfl, ?_⟩; have n0_ := Aside0.mk (Kd.N_lower (Kd.N_mono (ok' := fun k_ => True) (Kd.S_N (Kd.S_bound ho0)) (fun k_ hk_ => trivial)) (below_size (by repeat (first | (with_reducible first | exact HB.out | apply below_alloc | apply pw_below_drewN | apply below_drew1) | exact HB.out)))); have n1_ := Aside0.mk (below_step (by repeat (first | (with_reducible first | exact HB.out | apply below_alloc | apply pw_below_drewN | apply below_drew1) | exact HB.out)) hb); clear HB; have HO362 := n0_; have HB := n1_; clear n0_ n1_; (try clear hb); (try clear hb2); (try clear hk); (try clear hi); (try clear ho0); obtain ⟨Ao12, co12, eo12⟩ := Kd.N_slice HO362.out; subst eo12) | ((with_reducible refine gate_callee (f := 14) rfl ?_); refine goesL_ (some 18) rfl rfl Try.func14 (by kernel_rfl) rfl #[.slice Ao12 t360.length co12] rfl (by (try simp only [List.map_toArray, List.map_cons, List.map_nil]); first | done | rfl | (simp only [List.length_drop, List.length_take]; rfl)) ?_; (with_reducible refine (arb_Win.calls _ _ t360 t363 _ ?side1 ?side2 A6.out).mono ?_); (case side1 => repeat (first | exact (Kd.N_reads' HO362.out).2.2 | (with_reducible refine Kd.C_alloc ?_ _) | (with_reducible refine Kd.C_drewN ?_ _) | (with_reducible refine Kd.C_drew ?_))); (case side2 => exact (Kd.N_reads' HO362.out).2.1); rintro e w13 ⟨rfl, hb⟩; refine ⟨_, rfl, ?_⟩; have n0_ := Aside0.mk (Kd.N_below (by (with_reducible repeat (first | apply Kd.N_alloc | apply Kd.N_drewN | apply Kd.N_drew)); exact HO362.out) hb); have n1_ := Aside0.mk (below_step (by repeat (first | (with_reducible first | exact HB.out | apply below_alloc | apply pw_below_drewN | apply below_drew1) | exact HB.out)) hb); clear HO362; clear HB; have HO362 := n0_; have HB := n1_; clear n0_ n1_; (try clear hb); (try clear hb2); (try clear hk); (try clear hi)))
        go_ret
        exact ⟨by first | rfl | (simp [errW_none, errW_some] <;> rfl) | (simp [*, errW_none, errW_some] <;> rfl), by repeat (first | (with_reducible first | exact HB.out | apply below_alloc | apply pw_below_drewN | apply below_drew1) | exact HB.out)⟩
      · replace c9 := Bool.eq_false_iff.mpr c9
        subst c9
        have H1 : (none) = some r := by rw [if_neg (show ¬ (false = true) by decide)] at H; exact H
        clear H
        have H := H1
        clear H1
        exact absurd H (by simp)
    · rw [if_neg c8] at H
      exact absurd H (by simp)
  · rw [if_neg c7] at H
    have c7b0 : ((t360.length : Int) == 0) = false := beq_eq_false_iff_ne.mpr c7
    have c7b1 : ((t360.length : Int) != 0) = true := bne_iff_ne.mpr c7
    have c7b2 : ¬ (t360 = []) := fun h_ => c7 (by rw [h_]; rfl)
    have HC14 := Aside0.mk H
    clear H
    go_enter Try.func6, Try.ntmps6
    (try simp only [List.append])
    go_upto_region 6 with (first | ((with_reducible refine gate_callee (f := 11) rfl ?_); refine goesL_ (some 14) rfl rfl Try.func11 (by kernel_rfl) rfl #[] rfl (by (try simp only [List.map_toArray, List.map_cons, List.map_nil]); first | done | rfl | (simp only [List.length_drop, List.length_take]; rfl)) ?_; (with_reducible refine (phaetonlaw06_head.calls k  t359 _ A4.out).mono ?_); rintro e w15 ⟨rfl, hb⟩; refine ⟨_, rfl, ?_⟩; have n0_ := Aside0.mk (below_step (by repeat (first | (with_reducible first | exact HB.out | apply below_alloc | apply pw_below_drewN | apply below_drew1) | exact HB.out)) hb); clear HB; have HB := n0_; clear n0_; (try clear hb); (try clear hb2); (try clear hk); (try clear hi)) | ((with_reducible refine gate_callee (f := 12) rfl ?_); refine goesL_ (some 16) rfl rfl Try.func12 (by kernel_rfl) rfl #[.slice A0 l0.length c0, .int .i64 10] rfl (by (try simp only [List.map_toArray, List.map_cons, List.map_nil]); first | done | rfl | (simp only [List.length_drop, List.length_take]; rfl)) ?_; (with_reducible refine (phaetonref06_Frames.calls k _ _ l0 10 t360 _ ?side1 ?side2 A5.out).mono ?_); (case side1 => repeat (first | exact (Kd.C_below HR0.out HB.out) | (with_reducible refine Kd.C_alloc ?_ _) | (with_reducible refine Kd.C_drewN ?_ _) | (with_reducible refine Kd.C_drew ?_))); (case side2 => exact HC0.out); rintro e w16 ⟨v361, rfl, ho0, hb⟩; refine ⟨_, rfl, ?_⟩; have n0_ := Aside0.mk (Kd.N_lower (Kd.N_mono (ok' := fun k_ => True) (Kd.S_N (Kd.S_bound ho0)) (fun k_ hk_ => trivial)) (below_size (by repeat (first | (with_reducible first | exact HB.out | apply below_alloc | apply pw_below_drewN | apply below_drew1) | exact HB.out)))); have n1_ := Aside0.mk (below_step (by repeat (first | (with_reducible first | exact HB.out | apply below_alloc | apply pw_below_drewN | apply below_drew1) | exact HB.out)) hb); clear HB; have HO362 := n0_; have HB := n1_; clear n0_ n1_; (try clear hb); (try clear hb2); (try clear hk); (try clear hi); (try clear ho0); obtain ⟨Ao17, co17, eo17⟩ := Kd.N_slice HO362.out; subst eo17) | ((with_reducible refine gate_callee (f := 14) rfl ?_); refine goesL_ (some 18) rfl rfl Try.func14 (by kernel_rfl) rfl #[.slice Ao17 t360.length co17] rfl (by (try simp only [List.map_toArray, List.map_cons, List.map_nil]); first | done | rfl | (simp only [List.length_drop, List.length_take]; rfl)) ?_; (with_reducible refine (arb_Win.calls _ _ t360 t363 _ ?side1 ?side2 A6.out).mono ?_); (case side1 => repeat (first | exact (Kd.N_reads' HO362.out).2.2 | (with_reducible refine Kd.C_alloc ?_ _) | (with_reducible refine Kd.C_drewN ?_ _) | (with_reducible refine Kd.C_drew ?_))); (case side2 => exact (Kd.N_reads' HO362.out).2.1); rintro e w18 ⟨rfl, hb⟩; refine ⟨_, rfl, ?_⟩; have n0_ := Aside0.mk (Kd.N_below (by (with_reducible repeat (first | apply Kd.N_alloc | apply Kd.N_drewN | apply Kd.N_drew)); exact HO362.out) hb); have n1_ := Aside0.mk (below_step (by repeat (first | (with_reducible first | exact HB.out | apply below_alloc | apply pw_below_drewN | apply below_drew1) | exact HB.out)) hb); clear HO362; clear HB; have HO362 := n0_; have HB := n1_; clear n0_ n1_; (try clear hb); (try clear hb2); (try clear hk); (try clear hi)))
    (try simp only [Act.put, List.setIfInBounds_toArray, List.set_cons_zero, List.set_cons_succ])
    go_cut [34] (fun v34 wc => ∃ (kq : Nat) (x34_13 : Bool), v34 = .bool x34_13 ∧ Aside0 (phaetonlaw06_ArbOrder.j0 kq t360 a1 l2 t359 t363 x34_13 = some r) ∧ Aside0 (kq ≤ k) ∧ Aside0 (Kd.N k35 35 wc w.heap.size (fun _ => True) (.slice Ao17 t360.length co17) t360) ∧ Aside0 (Below w.heap.size w wc))
    case first =>
      have H := HC14.out
      clear HC14
      by_cases c19 : t363 < 0
      · rw [if_pos c19] at H
        have c19b0 : decide (t363 < 0) = true := decide_eq_true c19
        clear c19
        (first | rw [c19b0] | (simp only [i64_w, i32_w]; rw [c19b0]) | skip)
        have H' := Aside0.mk H
        clear H
        go_wp2
        go_meet
        case rel => exact ⟨_, (true), (by first | rfl | (simp; done) | (simp [*]; done)), H', ⟨by first | omega | exact Nat.le_refl _⟩, ⟨by (with_reducible repeat (first | apply Kd.N_alloc | apply Kd.N_drewN | apply Kd.N_drew)); exact HO362.out⟩, ⟨by repeat (first | (with_reducible first | exact HB.out | apply below_alloc | apply pw_below_drewN | apply below_drew1) | exact HB.out)⟩⟩
      · rw [if_neg c19] at H
        have c19b0 : decide (t363 < 0) = false := decide_eq_false c19
        clear c19
        (first | rw [c19b0] | (simp only [i64_w, i32_w]; rw [c19b0]) | skip)
        have H' := Aside0.mk H
        clear H
        go_wp2
        go_meet
        case rel => exact ⟨_, (decide (t363 ≥ (t360.length : Int))), (by first | rfl | (simp; done) | (simp [*]; done)), H', ⟨by first | omega | exact Nat.le_refl _⟩, ⟨by (with_reducible repeat (first | apply Kd.N_alloc | apply Kd.N_drewN | apply Kd.N_drew)); exact HO362.out⟩, ⟨by repeat (first | (with_reducible first | exact HB.out | apply below_alloc | apply pw_below_drewN | apply below_drew1) | exact HB.out)⟩⟩
    case rest =>
      clear HC14
      try clear c1
      try clear c2
      try clear p2
      try clear c6
      try clear c7
      try clear c7b0
      try clear c7b1
      try clear c7b2
      try clear c8
      try clear c8b0
      try clear c8b1
      try clear c9
      try clear c11
      try clear c12
      try clear c14
      try clear c19
      try clear c19b0
      obtain ⟨kq, x34_13, rfl, HA, HJ13, HO_0, HB⟩ := hcut
      cases kq with
      | zero => exact absurd HA.out (by simp [phaetonlaw06_ArbOrder.j0])
      | succ kj13 =>
        have H := HA.out
        clear HA
        simp only [phaetonlaw06_ArbOrder.j0] at H
        by_cases c20 : x34_13 = true
        · subst c20
          have H1 : (none) = some r := by rw [if_pos rfl] at H; exact H
          clear H
          have H := H1
          clear H1
          exact absurd H (by simp)
        · replace c20 := Bool.eq_false_iff.mpr c20
          subst c20
          have H1 : (if (t360.length : Int) = 0 then (none) else (if 0 ≤ t363 then (if t363 < (t360.length : Int) then ((some (([] : List (S35)) : List (S35))).bind fun y368 => (if 0 ≤ (Int.tmod (wrap64 (a1)) (t360.length : Int)) then (if (Int.tmod (wrap64 (a1)) (t360.length : Int)) ≤ (t360.length : Int) then ((some (t360.drop ((Int.tmod (wrap64 (a1)) (t360.length : Int)) : Int).toNat : List (S35))).bind fun y371 => (if y368.length + y371.length < 2513169434916 then ((some (y368 ++ y371 : List (S35))).bind fun y376 => ((some (t360.take ((Int.tmod (wrap64 (a1)) (t360.length : Int)) : Int).toNat : List (S35))).bind fun y379 => (if y376.length + y379.length < 2513169434916 then (phaetonlaw06_ArbOrder.l0 kj13 t360 l2 t359 t363 (([(⟨(rd_T35 t360 t363).f0, (rd_T35 t360 t363).f1, (rd_T35 t360 t363).f2, (rd_T35 t360 t363).f3, (rd_T35 t360 t363).f4⟩ : S35)] : List (S35))) (y376 ++ y379) 0) else (none)))) else (none))) else (none)) else (none))) else (none)) else (none))) = some r := by rw [if_neg (show ¬ (false = true) by decide)] at H; exact H
          clear H
          have H := H1
          clear H1
          by_cases c21 : (t360.length : Int) = 0
          · rw [if_pos c21] at H
            exact absurd H (by simp)
          · rw [if_neg c21] at H
            have c21b0 : ((t360.length : Int) == 0) = false := beq_eq_false_iff_ne.mpr c21
            have c21b1 : ((t360.length : Int) != 0) = true := bne_iff_ne.mpr c21
            have c21b2 : ¬ (t360 = []) := fun h_ => c21 (by rw [h_]; rfl)
            by_cases c22 : 0 ≤ t363
            · rw [if_pos c22] at H
              have c22b0 : decide (0 ≤ t363) = true := decide_eq_true c22
              clear c22
              by_cases c23 : t363 < (t360.length : Int)
              · rw [if_pos c23] at H
                have c23b0 : decide (t363 < (t360.length : Int)) = true := decide_eq_true c23
                clear c23
                obtain ⟨y365, hy365⟩ : ∃ y_ : List (S35), y_ = (([(⟨(rd_T35 t360 t363).f0, (rd_T35 t360 t363).f1, (rd_T35 t360 t363).f2, (rd_T35 t360 t363).f3, (rd_T35 t360 t363).f4⟩ : S35)] : List (S35))) := ⟨_, rfl⟩
                replace H : ((some (([] : List (S35)) : List (S35))).bind fun y368 => (if 0 ≤ (Int.tmod (wrap64 (a1)) (t360.length : Int)) then (if (Int.tmod (wrap64 (a1)) (t360.length : Int)) ≤ (t360.length : Int) then ((some (t360.drop ((Int.tmod (wrap64 (a1)) (t360.length : Int)) : Int).toNat : List (S35))).bind fun y371 => (if y368.length + y371.length < 2513169434916 then ((some (y368 ++ y371 : List (S35))).bind fun y376 => ((some (t360.take ((Int.tmod (wrap64 (a1)) (t360.length : Int)) : Int).toNat : List (S35))).bind fun y379 => (if y376.length + y379.length < 2513169434916 then (phaetonlaw06_ArbOrder.l0 kj13 t360 l2 t359 t363 y365 (y376 ++ y379) 0) else (none)))) else (none))) else (none)) else (none))) = some r := by first | (rw [hy365]; with_reducible exact H) | (have H2_ := (Option.bind_some _ _).symm.trans H; rw [hy365]; with_reducible exact H2_) | (have H2_ := (Option.bind_some _ _).symm.trans H; with_reducible exact H2_) | with_reducible exact H | (rw [hy365]; exact H) | exact H
                have Ny365 := Aside0.mk hy365
                clear hy365
                obtain ⟨y368, hy368⟩ : ∃ y_ : List (S35), y_ = (([] : List (S35))) := ⟨_, rfl⟩
                replace H : (if 0 ≤ (Int.tmod (wrap64 (a1)) (t360.length : Int)) then (if (Int.tmod (wrap64 (a1)) (t360.length : Int)) ≤ (t360.length : Int) then ((some (t360.drop ((Int.tmod (wrap64 (a1)) (t360.length : Int)) : Int).toNat : List (S35))).bind fun y371 => (if y368.length + y371.length < 2513169434916 then ((some (y368 ++ y371 : List (S35))).bind fun y376 => ((some (t360.take ((Int.tmod (wrap64 (a1)) (t360.length : Int)) : Int).toNat : List (S35))).bind fun y379 => (if y376.length + y379.length < 2513169434916 then (phaetonlaw06_ArbOrder.l0 kj13 t360 l2 t359 t363 y365 (y376 ++ y379) 0) else (none)))) else (none))) else (none)) else (none)) = some r := by first | (rw [hy368]; with_reducible exact H) | (have H2_ := (Option.bind_some _ _).symm.trans H; rw [hy368]; with_reducible exact H2_) | (have H2_ := (Option.bind_some _ _).symm.trans H; with_reducible exact H2_) | with_reducible exact H | (rw [hy368]; exact H) | exact H
                have Ny368 := Aside0.mk hy368
                clear hy368
                obtain ⟨ji24, hji24⟩ : ∃ j_ : Int, (Int.tmod (wrap64 (a1)) (t360.length : Int)) = j_ := ⟨_, rfl⟩
                replace H : (if 0 ≤ (ji24) then (if (ji24) ≤ (t360.length : Int) then ((some (t360.drop ((ji24) : Int).toNat : List (S35))).bind fun y371 => (if y368.length + y371.length < 2513169434916 then ((some (y368 ++ y371 : List (S35))).bind fun y376 => ((some (t360.take ((ji24) : Int).toNat : List (S35))).bind fun y379 => (if y376.length + y379.length < 2513169434916 then (phaetonlaw06_ArbOrder.l0 kj13 t360 l2 t359 t363 y365 (y376 ++ y379) 0) else (none)))) else (none))) else (none)) else (none)) = some r := by first | (rw [hji24] at H; exact H) | (simp only [hji24] at H ⊢; exact H)
                by_cases c25 : 0 ≤ (ji24)
                · rw [if_pos c25] at H
                  have c25b0 := eq_true c25
                  have c25b1 : decide (0 ≤ (ji24)) = true := decide_eq_true c25
                  have c25m : max (ji24) 0 = (ji24) := by omega
                  clear c25
                  by_cases c26 : (ji24) ≤ (t360.length : Int)
                  · rw [if_pos c26] at H
                    have c26b0 := eq_true c26
                    have c26b1 : decide ((ji24) ≤ (t360.length : Int)) = true := decide_eq_true c26
                    clear c26
                    obtain ⟨y371, hy371⟩ : ∃ y_ : List (S35), y_ = (t360.drop ((ji24) : Int).toNat) := ⟨_, rfl⟩
                    replace H : (if y368.length + y371.length < 2513169434916 then ((some (y368 ++ y371 : List (S35))).bind fun y376 => ((some (t360.take ((ji24) : Int).toNat : List (S35))).bind fun y379 => (if y376.length + y379.length < 2513169434916 then (phaetonlaw06_ArbOrder.l0 kj13 t360 l2 t359 t363 y365 (y376 ++ y379) 0) else (none)))) else (none)) = some r := by first | (rw [hy371]; with_reducible exact H) | (have H2_ := (Option.bind_some _ _).symm.trans H; rw [hy371]; with_reducible exact H2_) | (have H2_ := (Option.bind_some _ _).symm.trans H; with_reducible exact H2_) | with_reducible exact H | (rw [hy371]; exact H) | exact H
                    have Ny371 := Aside0.mk hy371
                    clear hy371
                    by_cases c27 : y368.length + y371.length < 2513169434916
                    · rw [if_pos c27] at H
                      have LMc27 := Aside0.mk c27
                      clear c27
                      obtain ⟨y376, hy376⟩ : ∃ y_ : List (S35), y_ = (y368 ++ y371) := ⟨_, rfl⟩
                      replace H : ((some (t360.take ((ji24) : Int).toNat : List (S35))).bind fun y379 => (if y376.length + y379.length < 2513169434916 then (phaetonlaw06_ArbOrder.l0 kj13 t360 l2 t359 t363 y365 (y376 ++ y379) 0) else (none))) = some r := by first | (rw [hy376]; with_reducible exact H) | (have H2_ := (Option.bind_some _ _).symm.trans H; rw [hy376]; with_reducible exact H2_) | (have H2_ := (Option.bind_some _ _).symm.trans H; with_reducible exact H2_) | with_reducible exact H | (rw [hy376]; exact H) | exact H
                      have Ny376 := Aside0.mk hy376
                      clear hy376
                      have c28b0 := eq_true (of_decide_eq_true (by first | (with_reducible assumption) | assumption) : 0 ≤ (ji24))
                      have c29b0 := eq_true (of_decide_eq_true (by first | (with_reducible assumption) | assumption) : (ji24) ≤ (t360.length : Int))
                      obtain ⟨y379, hy379⟩ : ∃ y_ : List (S35), y_ = (t360.take ((ji24) : Int).toNat) := ⟨_, rfl⟩
                      replace H : (if y376.length + y379.length < 2513169434916 then (phaetonlaw06_ArbOrder.l0 kj13 t360 l2 t359 t363 y365 (y376 ++ y379) 0) else (none)) = some r := by first | (rw [hy379]; with_reducible exact H) | (have H2_ := (Option.bind_some _ _).symm.trans H; rw [hy379]; with_reducible exact H2_) | (have H2_ := (Option.bind_some _ _).symm.trans H; with_reducible exact H2_) | with_reducible exact H | (rw [hy379]; exact H) | exact H
                      have Ny379 := Aside0.mk hy379
                      clear hy379
                      by_cases c30 : y376.length + y379.length < 2513169434916
                      · rw [if_pos c30] at H
                        have LMc30 := Aside0.mk c30
                        clear c30
                        obtain ⟨y384, hy384⟩ : ∃ y_ : List (S35), y_ = (y376 ++ y379) := ⟨_, rfl⟩
                        replace H : (phaetonlaw06_ArbOrder.l0 kj13 t360 l2 t359 t363 y365 y384 0) = some r := by first | (rw [hy384]; with_reducible exact H) | (have H2_ := (Option.bind_some _ _).symm.trans H; rw [hy384]; with_reducible exact H2_) | (have H2_ := (Option.bind_some _ _).symm.trans H; with_reducible exact H2_) | with_reducible exact H | (rw [hy384]; exact H) | exact H
                        have Ny384 := Aside0.mk hy384
                        clear hy384
                        have H' := Aside0.mk H
                        clear H
                        try go_wp2
                        have n0_ := Aside0.mk (Kd.N_drew HO_0.out)
                        have n1_ := Aside0.mk (below_drew1 HB.out)
                        clear HO_0
                        clear HB
                        have HO_0 := n0_
                        have HB := n1_
                        clear n0_ n1_
                        have p364 : 0 ≤ (t363 : Int) := of_decide_eq_true (by first | (with_reducible assumption) | assumption)
                        have q364 : t363 < (t360.length : Int) := of_decide_eq_true (by first | (with_reducible assumption) | assumption)
                        obtain ⟨ad364, A364_4, c364_4, e364, hx364_0, hx364_1, hx364_2, hx364_3, hx364_4, hl364_4, hi364_4⟩ := at_T35 (Kd.N_reads' HO_0.out).2.2 t363 p364 q364
                        cases e364
                        obtain ⟨ce364, hce364, hMe364, hcc364⟩ := Kd.N_get HO_0.out z35 t363 p364 (by first | exact q364 | exact of_decide_eq_true (by first | (with_reducible assumption) | assumption) | (have e_ := (Kd.N_reads' HO_0.out).1; omega))
                        obtain ⟨ua364_4, uc364_4, rfl, ul364_4, ge364_4⟩ := k35_openF hMe364
                        have hv364_4 := hcc364 4 _ rfl
                        rw [add_field _ _ 4 (by omega)] at hv364_4
                        replace hv364_4 := Option.some.inj (hv364_4.symm.trans hx364_4)
                        injection hv364_4 with hva_ hvn_ hvc_
                        rw [hva_] at ge364_4
                        rw [hvc_] at ul364_4
                        have HL364_4 := Aside0.mk (show Kd.V (Kd.int .u8) 5 _ w.heap.size _ _ ((rd_T35 t360 t363).f4) from Kd.V_mk ul364_4 ge364_4)
                        clear hva_ hvn_ hvc_ ge364_4 ul364_4
                        clear hcc364 hce364
                        have HR364_4 := Aside0.mk hi364_4
                        have HC364_4 := Aside0.mk hl364_4
                        clear hi364_4 hl364_4
                        replace p364 := eq_true p364
                        replace q364 := eq_true q364
                        refine start_ (n := 12) (S := fun w' => w'.cell? (ad364.add ((t363).toNat * 5)) = some (.bool ((rd_T35 t360 t363).f0)) ∧ w'.cell? ⟨(ad364.add ((t363).toNat * 5)).block, (ad364.add ((t363).toNat * 5)).off + 1, none⟩ = some (.int .i64 ((rd_T35 t360 t363).f1)) ∧ w'.cell? ⟨(ad364.add ((t363).toNat * 5)).block, (ad364.add ((t363).toNat * 5)).off + 2, none⟩ = some (.bool ((rd_T35 t360 t363).f2)) ∧ w'.cell? ⟨(ad364.add ((t363).toNat * 5)).block, (ad364.add ((t363).toNat * 5)).off + 3, none⟩ = some (.int .i64 ((rd_T35 t360 t363).f3)) ∧ w'.cell? ⟨(ad364.add ((t363).toNat * 5)).block, (ad364.add ((t363).toNat * 5)).off + 4, none⟩ = some (.slice A364_4 ((rd_T35 t360 t363).f4).length c364_4)) (ds := []) #[false, false, false, false, false, false, false, false, false, false, false, false] (by kernel_rfl) rfl rfl ⟨hx364_0, hx364_1, hx364_2, hx364_3, hx364_4⟩ (fun hHeld => ?_); refine with_tabW phaetonlaw06_ArbOrder.tab8 phaetonlaw06_ArbOrder.bits8 (fun HT_ HW_ => ?_)
                        generalize wc.drew = w31 at HO_0 HB HL364_4 HR364_4 hx364_0 hx364_1 hx364_2 hx364_3 hx364_4 hHeld ⊢
                        refine pure_ (i := 0) (N := some 35) (v := ?_) (a' := ?_) #[true, false, false, false, false, false, false, false, false, false, false, false] rfl rfl (any_of HT_.out (by kernel_rfl)) (fun _ _ _ h => h) (Or.inl ⟨by rfl, ?_⟩) ?_ ?_
                        rotate_left
                        · intro w'
                          go_simp
                          with_reducible rfl
                        rotate_left
                        · simp only [Act.put, List.setIfInBounds_toArray, List.set_cons_zero, List.set_cons_succ, i64_w, i32_w]
                          rfl
                        refine pure_ (i := 1) (N := some 36) (v := ?_) (a' := ?_) #[true, true, false, false, false, false, false, false, false, false, false, false] rfl rfl (any_of HT_.out (by kernel_rfl)) (fun _ _ _ h => h) (Or.inl ⟨by rfl, ?_⟩) ?_ ?_
                        rotate_left
                        · intro w'
                          go_simp
                          with_reducible rfl
                        rotate_left
                        · simp only [Act.put, List.setIfInBounds_toArray, List.set_cons_zero, List.set_cons_succ, i64_w, i32_w]
                          rfl
                        refine pure_ (i := 2) (N := some 37) (v := ?_) (a' := ?_) #[true, true, true, false, false, false, false, false, false, false, false, false] rfl rfl (any_of HT_.out (by kernel_rfl)) (fun _ _ _ h => h) (Or.inl ⟨by rfl, ?_⟩) ?_ ?_
                        rotate_left
                        · intro w'
                          go_simp
                          with_reducible rfl
                        rotate_left
                        · simp only [Act.put, List.setIfInBounds_toArray, List.set_cons_zero, List.set_cons_succ, i64_w, i32_w]
                          rfl
                        refine pure_ (i := 3) (N := some 38) (v := ?_) (a' := ?_) #[true, true, true, true, false, false, false, false, false, false, false, false] rfl rfl (any_of HT_.out (by kernel_rfl)) (fun _ _ _ h => h) (Or.inl ⟨by rfl, ?_⟩) ?_ ?_
                        rotate_left
                        · intro w'
                          go_simp
                          with_reducible rfl
                        rotate_left
                        · simp only [Act.put, List.setIfInBounds_toArray, List.set_cons_zero, List.set_cons_succ, i64_w, i32_w]
                          rfl
                        refine pure_ (i := 4) (N := some 39) (v := ?_) (a' := ?_) #[true, true, true, true, true, false, false, false, false, false, false, false] rfl rfl (any_of HT_.out (by kernel_rfl)) (fun _ _ _ h => h) (Or.inl ⟨by rfl, ?_⟩) ?_ ?_
                        rotate_left
                        · intro w'
                          go_simp
                          with_reducible rfl
                        rotate_left
                        · simp only [Act.put, List.setIfInBounds_toArray, List.set_cons_zero, List.set_cons_succ, i64_w, i32_w]
                          rfl
                        refine pure_ (i := 5) (N := some 40) (v := ?_) (a' := ?_) #[true, true, true, true, true, true, false, false, false, false, false, false] rfl rfl (any_of HT_.out (by kernel_rfl)) (fun _ _ _ h => h) (Or.inl ⟨by rfl, ?_⟩) ?_ ?_
                        rotate_left
                        · intro w'
                          go_simp
                          with_reducible rfl
                        rotate_left
                        · simp only [Act.put, List.setIfInBounds_toArray, List.set_cons_zero, List.set_cons_succ, i64_w, i32_w]
                          rfl
                        refine pure_ (i := 6) (N := some 41) (v := ?_) (a' := ?_) #[true, true, true, true, true, true, true, false, false, false, false, false] rfl rfl (any_of HT_.out (by kernel_rfl)) (fun _ _ _ h => h) (Or.inl ⟨by rfl, ?_⟩) ?_ ?_
                        rotate_left
                        · intro w'
                          go_simp
                          with_reducible rfl
                        rotate_left
                        · simp only [Act.put, List.setIfInBounds_toArray, List.set_cons_zero, List.set_cons_succ, i64_w, i32_w]
                          rfl
                        refine pure_ (i := 7) (N := some 42) (v := ?_) (a' := ?_) #[true, true, true, true, true, true, true, true, false, false, false, false] rfl rfl (any_of HT_.out (by kernel_rfl)) (fun _ _ _ h => h) (Or.inl ⟨by rfl, ?_⟩) ?_ ?_
                        rotate_left
                        · intro w'
                          go_simp
                          with_reducible rfl
                        rotate_left
                        · simp only [Act.put, List.setIfInBounds_toArray, List.set_cons_zero, List.set_cons_succ, i64_w, i32_w]
                          rfl
                        refine pure_ (i := 10) (N := some 9) (v := ?_) (a' := ?_) #[true, true, true, true, true, true, true, true, false, false, true, false] rfl rfl (any_of HT_.out (by kernel_rfl)) (fun _ _ _ h => h) (Or.inl ⟨by rfl, ?_⟩) ?_ ?_
                        rotate_left
                        · intro w'
                          go_simp
                          with_reducible rfl
                        rotate_left
                        · simp only [Act.put, List.setIfInBounds_toArray, List.set_cons_zero, List.set_cons_succ, i64_w, i32_w]
                          rfl
                        refine take_ (i := 8) (N := some 43) (v := ?_) (a' := ?_) #[true, true, true, true, true, true, true, true, true, false, true, false] rfl rfl (take_ofW HT_.out HW_.out (by kernel_rfl)) (fun _ _ _ h => h) (Or.inl ⟨by rfl, ?_⟩) hHeld ?_ ?_
                        rotate_left
                        · rintro w' ⟨s0, s1, s2, s3, s4⟩
                          go_simp
                          with_reducible rfl
                        rotate_left
                        · simp only [Act.put, List.setIfInBounds_toArray, List.set_cons_zero, List.set_cons_succ, i64_w, i32_w]
                          rfl
                        refine one_ (i := 9) (N := some 44) #[true, true, true, true, true, true, true, true, true, true, true, false] rfl rfl (one_of HT_.out (by kernel_rfl)) (by decide) (fun K hK => ?_)
                        refine Kd.N_lit_step k35 _ 35 ?hg (N' := 44) ?hd (xs := ([(⟨(rd_T35 t360 t363).f0, (rd_T35 t360 t363).f1, (rd_T35 t360 t363).f2, (rd_T35 t360 t363).f3, (rd_T35 t360 t363).f4⟩ : S35)] : List (S35))) (inner := [.bool ((rd_T35 t360 t363).f0), .int .i64 ((rd_T35 t360 t363).f1), .bool ((rd_T35 t360 t363).f2), .int .i64 ((rd_T35 t360 t363).f3), .slice A364_4 ((rd_T35 t360 t363).f4).length c364_4]) (ok := (fun k_ => some k_ ≠ (.slice (some ad364) t360.length co17 : Value).ownBlock)) (okp := (fun k_ => some k_ ≠ (.slice (some ad364) t360.length co17 : Value).ownBlock)) ?hr ?hp (fun _ hk => hk) ((show ∀ k_, w31.heap.size ≤ k_ → (fun k_ => some k_ ≠ (.slice (some ad364) t360.length co17 : Value).ownBlock) k_ from fun k_ hk => Kd.fresh' (Kd.N_lt (by (with_reducible repeat (first | apply Kd.N_alloc | apply Kd.N_drewN | apply Kd.N_drew)); exact HO_0.out)) k_ hk) _ (Nat.le_refl _)) (Below.refl _ _) (Nat.le_refl _) (by simp) ?_; (case hd => rfl); (case hg => rfl); (case hr => first | (go_simp; done) | (go_simp; rfl)); (case hp => exact (Reps.c5 (show Kd.FK k35 _ _ (⟨(rd_T35 t360 t363).f0, (rd_T35 t360 t363).f1, (rd_T35 t360 t363).f2, (rd_T35 t360 t363).f3, (rd_T35 t360 t363).f4⟩ : S35) [.bool ((rd_T35 t360 t363).f0), .int .i64 ((rd_T35 t360 t363).f1), .bool ((rd_T35 t360 t363).f2), .int .i64 ((rd_T35 t360 t363).f3), .slice A364_4 ((rd_T35 t360 t363).f4).length c364_4] from (k35_mkF _ _ (⟨(rd_T35 t360 t363).f0, (rd_T35 t360 t363).f1, (rd_T35 t360 t363).f2, (rd_T35 t360 t363).f3, (rd_T35 t360 t363).f4⟩ : S35) (Kd.V_reads' (Kd.V_mono (ok' := (fun k_ => some k_ ≠ (.slice (some ad364) t360.length co17 : Value).ownBlock)) (HL364_4.out) (fun k_ hk => hk.2))).2.1 (Kd.V_F (Kd.V_mono (ok' := (fun k_ => some k_ ≠ (.slice (some ad364) t360.length co17 : Value).ownBlock)) (HL364_4.out) (fun k_ hk => hk.2))))) (Reps.none _ _)))
                        intro v366 w32 ho33 hb hg_ hnew_
                        have HS0_ := (hb.cell (World.block_lt_of_cell? _ _ (hHeld.1))).trans (hHeld.1)
                        have HS1_ := (hb.cell (World.block_lt_of_cell? _ _ (hHeld.2.1))).trans (hHeld.2.1)
                        have HS2_ := (hb.cell (World.block_lt_of_cell? _ _ (hHeld.2.2.1))).trans (hHeld.2.2.1)
                        have HS3_ := (hb.cell (World.block_lt_of_cell? _ _ (hHeld.2.2.2.1))).trans (hHeld.2.2.2.1)
                        have HS4_ := (hb.cell (World.block_lt_of_cell? _ _ (hHeld.2.2.2.2))).trans (hHeld.2.2.2.2)
                        clear hg_ hnew_
                        (first | rw [← Ny365.out] at ho33 | (simp only [Int.reduceToNat] at ho33; rw [← Ny365.out] at ho33))
                        have n0_ := Aside0.mk (Kd.N_elder' (by (with_reducible repeat (first | apply Kd.N_alloc | apply Kd.N_drewN | apply Kd.N_drew)); exact HO_0.out) (Kd.N_base ho33) hb)
                        have n1_ := Aside0.mk (Kd.V_elder' (by (with_reducible repeat (first | apply Kd.V_alloc | apply Kd.V_drewN | apply Kd.V_drew)); exact HL364_4.out) (Kd.N_base ho33) hb)
                        have n2_ := Aside0.mk (Kd.N_lower ho33 (below_size (by repeat (first | (with_reducible first | exact HB.out | apply below_alloc | apply pw_below_drewN | apply below_drew1) | exact HB.out))))
                        have n3_ := Aside0.mk (Kd.C_below (by repeat (first | (with_reducible exact HR364_4.out) | (with_reducible refine Kd.C_alloc ?_ _) | (with_reducible refine Kd.C_drewN ?_ _) | (with_reducible refine Kd.C_drew ?_) | exact HR364_4.out)) hb)
                        have n4_ := Aside0.mk (below_step (by repeat (first | (with_reducible first | exact HB.out | apply below_alloc | apply pw_below_drewN | apply below_drew1) | exact HB.out)) hb)
                        clear HO_0
                        clear HL364_4
                        clear HR364_4
                        clear HB
                        have HO_0 := n0_
                        have HL364_4 := n1_
                        have HO367 := n2_
                        have HR364_4 := n3_
                        have HB := n4_
                        clear n0_ n1_ n2_ n3_ n4_
                        clear hb ho33
                        refine hK.out _ _ ⟨HS0_, HS1_, HS2_, HS3_, HS4_⟩ (fun hHeld => ?_)
                        clear hK K
                        refine norm_ (a' := ?_) ?_ ?_
                        rotate_left
                        · show Act.put _ (some 44) _ = _
                          simp only [Act.put, List.setIfInBounds_toArray, List.set_cons_zero, List.set_cons_succ, i64_w, i32_w]
                          rfl
                        refine pure_ (i := 11) (N := some 10) (v := ?_) (a' := ?_) #[true, true, true, true, true, true, true, true, true, true, true, true] rfl rfl (any_of HT_.out (by kernel_rfl)) (fun _ _ _ h => h) (Or.inl ⟨by rfl, ?_⟩) ?_ ?_
                        rotate_left
                        · intro w'
                          go_simp
                          with_reducible rfl
                        rotate_left
                        · simp only [Act.put, List.setIfInBounds_toArray, List.set_cons_zero, List.set_cons_succ, i64_w, i32_w]
                          rfl
                        refine done_ (done_of HT_.out (by kernel_rfl)) ?_
                        try go_wp2_with (first | ((with_reducible refine gate_dst (N := 45) rfl ?_); (try (refine gate_guard (by rfl) ?_; dsimp only)); refine Kd.N_lit k35 _ 35 ?hg (N' := 45) ?hd (xs := ([] : List (S35))) (inner := []) (ok := (fun k_ => some k_ ≠ (.slice (some ad364) t360.length co17 : Value).ownBlock ∧ some k_ ≠ (v366 : Value).ownBlock)) (okp := (fun k_ => some k_ ≠ (.slice (some ad364) t360.length co17 : Value).ownBlock ∧ some k_ ≠ (v366 : Value).ownBlock)) ?hr ?hp (fun _ hk => hk) ((show ∀ k_, w32.heap.size ≤ k_ → (fun k_ => some k_ ≠ (.slice (some ad364) t360.length co17 : Value).ownBlock ∧ some k_ ≠ (v366 : Value).ownBlock) k_ from fun k_ hk => ⟨Kd.fresh' (Kd.N_lt (by (with_reducible repeat (first | apply Kd.N_alloc | apply Kd.N_drewN | apply Kd.N_drew)); exact HO_0.out)) k_ hk, Kd.fresh' (Kd.N_lt (by (with_reducible repeat (first | apply Kd.N_alloc | apply Kd.N_drewN | apply Kd.N_drew)); exact HO367.out)) k_ hk⟩) _ (Nat.le_refl _)) (Below.refl _ _) (Nat.le_refl _) (by simp) ?_; (case hd => rfl); (case hg => rfl); (case hr => first | (go_simp; done) | (go_simp; rfl)); (case hp => exact (Reps.none _ _)); intro v369 w34 ho35 hb hg_ hnew_; clear hg_ hnew_; (first | rw [← Ny368.out] at ho35 | (simp only [Int.reduceToNat] at ho35; rw [← Ny368.out] at ho35)); have n0_ := Aside0.mk (Kd.N_elder' (by (with_reducible repeat (first | apply Kd.N_alloc | apply Kd.N_drewN | apply Kd.N_drew)); exact HO_0.out) (Kd.N_base ho35) hb); have n1_ := Aside0.mk (Kd.V_elder' (by (with_reducible repeat (first | apply Kd.V_alloc | apply Kd.V_drewN | apply Kd.V_drew)); exact HL364_4.out) (Kd.N_base ho35) hb); have n2_ := Aside0.mk (Kd.N_elder' (by (with_reducible repeat (first | apply Kd.N_alloc | apply Kd.N_drewN | apply Kd.N_drew)); exact HO367.out) (Kd.N_base ho35) hb); have n3_ := Aside0.mk (Kd.N_lower ho35 (below_size (by repeat (first | (with_reducible first | exact HB.out | apply below_alloc | apply pw_below_drewN | apply below_drew1) | exact HB.out)))); have n4_ := Aside0.mk (Kd.C_below (by repeat (first | (with_reducible exact HR364_4.out) | (with_reducible refine Kd.C_alloc ?_ _) | (with_reducible refine Kd.C_drewN ?_ _) | (with_reducible refine Kd.C_drew ?_) | exact HR364_4.out)) hb); have n5_ := Aside0.mk (below_step (by repeat (first | (with_reducible first | exact HB.out | apply below_alloc | apply pw_below_drewN | apply below_drew1) | exact HB.out)) hb); clear HO_0; clear HL364_4; clear HO367; clear HR364_4; clear HB; have HO_0 := n0_; have HL364_4 := n1_; have HO367 := n2_; have HO370 := n3_; have HR364_4 := n4_; have HB := n5_; clear n0_ n1_ n2_ n3_ n4_ n5_; clear hb ho35; have q36 : ((ji24) : Int) ≤ ((t360.length : Int) : Int) := of_decide_eq_true (by first | (with_reducible assumption) | assumption); obtain ⟨i036, hi036, _, hsz36, _⟩ := info_parts info35; have hroom36 : t360.length ≤ co17 := (Kd.N_reads' HO_0.out).2.1; have hC36 : Kd.F k35 _ _ (some ad364) t360.length t360 := (Kd.V_at (base := w.heap.size) (Kd.N_V HO_0.out)).2.2; have q036 : (0 : Int) ≤ ((ji24) : Int) := of_decide_eq_true (by first | (with_reducible assumption) | assumption); have hcut36 := cut_from (P := Try.prog) 22 35 .i64 Try.underlying22 hi036 5 hsz36 (some ad364) t360.length co17 (ji24) q036 q36; have hr36 := Kd.F_cut (m := ((ji24) : Int).toNat) (c := co17) hC36 (by omega) hroom36; obtain ⟨A36, hA36⟩ : ∃ A1, A1 = (if co17 = ((ji24) : Int).toNat then (some ad364) else ((some ad364) : Option Addr).map (·.add (((ji24) : Int).toNat * 5))) := ⟨_, rfl⟩; obtain ⟨c36, hc36⟩ : ∃ c1, c1 = co17 - ((ji24) : Int).toNat := ⟨_, rfl⟩; have hy36 : y371.length = t360.length - ((ji24) : Int).toNat := (by rw [Ny371.out, List.length_drop] <;> omega); rw [show (t360).drop ((ji24) : Int).toNat = y371 from Ny371.out.symm] at hr36; replace hr36 : Kd.F k35 _ _ A36 y371.length y371 := (by rw [hA36]; exact hr36); rw [← hy36, ← hA36, ← hc36] at hcut36; have HO375 := Aside0.mk (show Kd.V k35 35 _ w.heap.size _ (.slice A36 y371.length c36) y371 from Kd.V_mk (by rw [hy36, hc36]; exact Nat.sub_le_sub_right hroom36 _) hr36); have HC375 := Aside0.mk (show y371.length ≤ c36 from by rw [hy36, hc36]; exact Nat.sub_le_sub_right hroom36 _); clear hr36 hC36 hroom36 hi036 hsz36 hc36; have KY36 := Aside0.mk hy36; have KA36 := Aside0.mk hA36; clear hy36 hA36; replace q36 := eq_true q36) | ((with_reducible refine gate_builtin (b := .append) (xs := #[.tmp 45, .tmp 48]) rfl ?_); (try (refine gate_guard (by rfl) ?_; dsimp only)); at_builtin; refine Kd.N_append_rows k35 (w0 := w) w.heap.size rfl (.tmp 45) (.tmp 48) 22 35 (.agg #[(.bool false), (.int .i64 0), (.bool false), (.int .i64 0), (.slice none 0 0)]) 56 rfl Try.underlying22 info35 rfl (by decide) (by omega) v369 y368 y371 _ _ _ (fun k_ => some k_ ≠ (v366 : Value).ownBlock) (fun k_ => ((fun k_ => some k_ ≠ (v366 : Value).ownBlock)) k_ ∧ some k_ ≠ (v369 : Value).ownBlock) rfl rfl ?aO ?aR (fun _ hk => hk) ?aF ?aB ?aS ?aL ?_; (case aR => exact (by skip; exact Kd.V_F (Kd.V_mono (ok' := (fun k_ => ((fun k_ => some k_ ≠ (v366 : Value).ownBlock)) k_ ∧ some k_ ≠ (v369 : Value).ownBlock)) (HO375.out) (fun k_ hk => ⟨hk.1.2, hk.2⟩)))); (case aB => exact (by repeat (first | (with_reducible first | exact HB.out | apply below_alloc | apply pw_below_drewN | apply below_drew1) | exact HB.out))); (case aF => exact (fun k_ hk => Kd.fresh' (Kd.N_lt (by (with_reducible repeat (first | apply Kd.N_alloc | apply Kd.N_drewN | apply Kd.N_drew)); exact HO367.out)) k_ hk)); (case aO => exact (by (with_reducible repeat (first | apply Kd.N_alloc | apply Kd.N_drewN | apply Kd.N_drew)); exact Kd.N_mono HO370.out (fun _ hk => hk.2))); (case aS => exact (below_size (by repeat (first | (with_reducible first | exact HB.out | apply below_alloc | apply pw_below_drewN | apply below_drew1) | exact HB.out)))); (case aL => have := LMc27.out; omega); intro v377 w37 ho hb hg hat; rw [← Ny376.out] at ho; have n0_ := Aside0.mk (Kd.N_afterv (ok := (fun k_ => some k_ ≠ (v366 : Value).ownBlock)) (by (with_reducible repeat (first | apply Kd.N_alloc | apply Kd.N_drewN | apply Kd.N_drew)); exact Kd.N_mono HO_0.out (fun k_ hk => by first | exact ⟨hk.1.2, hk.2⟩ | (refine ⟨?_, ?_⟩ <;> first | exact hk.1 | exact hk.2 | exact hk.1.2 | exact hk.2.2 | exact hk.1.1 | exact hk.2.1))) hg hat); have n1_ := Aside0.mk (Kd.V_afterv (ok := (fun k_ => some k_ ≠ (.slice (some ad364) t360.length co17 : Value).ownBlock ∧ some k_ ≠ (v366 : Value).ownBlock)) (by (with_reducible repeat (first | apply Kd.V_alloc | apply Kd.V_drewN | apply Kd.V_drew)); exact Kd.V_mono HL364_4.out (fun _ hk => ⟨⟨hk.1.1.2, hk.1.2⟩, hk.2⟩)) hg hat); have n2_ := Aside0.mk (Kd.N_afterv (ok := (fun k_ => some k_ ≠ (.slice (some ad364) t360.length co17 : Value).ownBlock)) (by (with_reducible repeat (first | apply Kd.N_alloc | apply Kd.N_drewN | apply Kd.N_drew)); exact HO367.out) hg hat); have n3_ := Aside0.mk (Kd.V_afterv (ok := (fun k_ => some k_ ≠ (v366 : Value).ownBlock)) (by (with_reducible repeat (first | apply Kd.V_alloc | apply Kd.V_drewN | apply Kd.V_drew)); exact Kd.V_mono HO375.out (fun k_ hk => by first | exact ⟨hk.1.2, hk.2⟩ | (refine ⟨?_, ?_⟩ <;> first | exact hk.1 | exact hk.2 | exact hk.1.2 | exact hk.2.2 | exact hk.1.1 | exact hk.2.1))) hg hat); have n4_ := Aside0.mk (hb); have n5_ := Aside0.mk (ho); clear HO_0; clear HL364_4; clear HO367; clear HO375; clear HB; clear HO370; have HO_0 := n0_; have HL364_4 := n1_; have HO367 := n2_; have HO375 := n3_; have HB := n4_; have HO378 := n5_; clear n0_ n1_ n2_ n3_ n4_ n5_; clear ho hb hg hat; have q38 : ((ji24) : Int) ≤ ((t360.length : Int) : Int) := of_decide_eq_true (by first | (with_reducible assumption) | assumption); obtain ⟨i038, hi038, _, hsz38, _⟩ := info_parts info35; have hroom38 : t360.length ≤ co17 := (Kd.N_reads' HO_0.out).2.1; have hC38 : Kd.F k35 _ _ (some ad364) t360.length t360 := (Kd.V_at (base := w.heap.size) (Kd.N_V HO_0.out)).2.2; have hcut38 := cut_to (P := Try.prog) 22 35 .i64 Try.underlying22 hi038 (some ad364) t360.length co17 (ji24) (of_decide_eq_true (by first | (with_reducible assumption) | assumption)) q38 hroom38; have hr38 := Kd.F_take (m := ((ji24) : Int).toNat) hC38 (by omega); have hy38 : y379.length = ((ji24) : Int).toNat := (by rw [Ny379.out, List.length_take]; omega); rw [← Ny379.out] at hr38; rw [← hy38] at hcut38; have HO383 := Aside0.mk (show Kd.V k35 35 _ w.heap.size _ (.slice (some ad364) y379.length co17) y379 from Kd.V_mk (by omega) hr38); have HC383 := Aside0.mk (show y379.length ≤ co17 from by omega); clear hr38 hC38 hroom38 hi038 hsz38; have KY38 := Aside0.mk hy38; clear hy38; replace q38 := eq_true q38) | ((with_reducible refine gate_builtin (b := .append) (xs := #[.tmp 50, .tmp 53]) rfl ?_); (try (refine gate_guard (by rfl) ?_; dsimp only)); at_builtin; refine Kd.N_append_rows k35 (w0 := w) w.heap.size rfl (.tmp 50) (.tmp 53) 22 35 (.agg #[(.bool false), (.int .i64 0), (.bool false), (.int .i64 0), (.slice none 0 0)]) 56 rfl Try.underlying22 info35 rfl (by decide) (by omega) v377 y376 y379 _ _ _ (fun k_ => some k_ ≠ (v366 : Value).ownBlock) (fun k_ => ((fun k_ => some k_ ≠ (v366 : Value).ownBlock)) k_ ∧ some k_ ≠ (v377 : Value).ownBlock) rfl rfl ?aO ?aR (fun _ hk => hk) ?aF ?aB ?aS ?aL ?_; (case aR => exact (by skip; exact Kd.V_F (Kd.V_mono (ok' := (fun k_ => ((fun k_ => some k_ ≠ (v366 : Value).ownBlock)) k_ ∧ some k_ ≠ (v377 : Value).ownBlock)) (HO383.out) (fun k_ hk => ⟨hk.1, hk.2⟩)))); (case aB => exact (by repeat (first | (with_reducible first | exact HB.out | apply below_alloc | apply pw_below_drewN | apply below_drew1) | exact HB.out))); (case aF => exact (fun k_ hk => Kd.fresh' (Kd.N_lt (by (with_reducible repeat (first | apply Kd.N_alloc | apply Kd.N_drewN | apply Kd.N_drew)); exact HO367.out)) k_ hk)); (case aO => exact (by (with_reducible repeat (first | apply Kd.N_alloc | apply Kd.N_drewN | apply Kd.N_drew)); exact HO378.out)); (case aS => exact (below_size (by repeat (first | (with_reducible first | exact HB.out | apply below_alloc | apply pw_below_drewN | apply below_drew1) | exact HB.out)))); (case aL => have := LMc30.out; omega); intro v385 w39 ho hb hg hat; rw [← Ny384.out] at ho; have n0_ := Aside0.mk (Kd.N_afterv (ok := (fun k_ => some k_ ≠ (v366 : Value).ownBlock)) (by (with_reducible repeat (first | apply Kd.N_alloc | apply Kd.N_drewN | apply Kd.N_drew)); exact HO_0.out) hg hat); have n1_ := Aside0.mk (Kd.V_afterv (ok := (fun k_ => some k_ ≠ (.slice (some ad364) t360.length co17 : Value).ownBlock ∧ some k_ ≠ (v366 : Value).ownBlock)) (by (with_reducible repeat (first | apply Kd.V_alloc | apply Kd.V_drewN | apply Kd.V_drew)); exact HL364_4.out) hg hat); have n2_ := Aside0.mk (Kd.N_afterv (ok := (fun k_ => some k_ ≠ (.slice (some ad364) t360.length co17 : Value).ownBlock)) (by (with_reducible repeat (first | apply Kd.N_alloc | apply Kd.N_drewN | apply Kd.N_drew)); exact HO367.out) hg hat); have n3_ := Aside0.mk (Kd.V_afterv (ok := (fun k_ => some k_ ≠ (v366 : Value).ownBlock)) (by (with_reducible repeat (first | apply Kd.V_alloc | apply Kd.V_drewN | apply Kd.V_drew)); exact HO375.out) hg hat); have n4_ := Aside0.mk (Kd.V_afterv (ok := (fun k_ => some k_ ≠ (v366 : Value).ownBlock)) (by (with_reducible repeat (first | apply Kd.V_alloc | apply Kd.V_drewN | apply Kd.V_drew)); exact HO383.out) hg hat); have n5_ := Aside0.mk (hb); have n6_ := Aside0.mk (ho); clear HO_0; clear HL364_4; clear HO367; clear HO375; clear HO383; clear HB; clear HO378; have HO_0 := n0_; have HL364_4 := n1_; have HO367 := n2_; have HO375 := n3_; have HO383 := n4_; have HB := n5_; have HO386 := n6_; clear n0_ n1_ n2_ n3_ n4_ n5_ n6_; clear ho hb hg hat))
                        go_loopg [10, 12] kj13 (fun kq v10 v12 w' => ∃ (x10_2 : List (S35)) (x12_2 : Int), v12 = .int .i64 x12_2 ∧ Aside0 (phaetonlaw06_ArbOrder.l0 kq t360 l2 t359 t363 x10_2 y384 x12_2 = some r) ∧ Aside0 (kq ≤ kj13) ∧ Aside0 (Kd.N k35 35 w' w.heap.size (fun k_ => some k_ ≠ (v10 : Value).ownBlock ∧ some k_ ≠ (v385 : Value).ownBlock) (.slice (some ad364) t360.length co17) t360) ∧ Aside0 (Kd.N k35 35 w' w.heap.size (fun k_ => some k_ ≠ ((.slice (some ad364) t360.length co17) : Value).ownBlock ∧ some k_ ≠ (v385 : Value).ownBlock) v10 x10_2) ∧ Aside0 (Kd.N k35 35 w' w.heap.size (fun k_ => some k_ ≠ (v10 : Value).ownBlock) v385 y384) ∧ Aside0 (Below w.heap.size w w'))
                        case atStart => exact ⟨(y365), (0), (by first | rfl | (simp; done) | (simp [*]; done)), H', ⟨Nat.le_refl _⟩, ⟨by (with_reducible repeat (first | apply Kd.N_alloc | apply Kd.N_drewN | apply Kd.N_drew)); exact HO_0.out⟩, ⟨by (with_reducible repeat (first | apply Kd.N_alloc | apply Kd.N_drewN | apply Kd.N_drew)); exact HO367.out⟩, ⟨by (with_reducible repeat (first | apply Kd.N_alloc | apply Kd.N_drewN | apply Kd.N_drew)); exact HO386.out⟩, ⟨by repeat (first | (with_reducible first | exact HB.out | apply below_alloc | apply pw_below_drewN | apply below_drew1) | exact HB.out)⟩⟩
                        case round =>
                          clear H'
                          try clear c1
                          try clear c2
                          try clear p2
                          try clear c3
                          try clear p3
                          try clear q3
                          try clear hx3
                          try clear c5
                          try clear c6
                          try clear p6
                          try clear c7
                          try clear c7b0
                          try clear c7b1
                          try clear c7b2
                          try clear c8
                          try clear c8b0
                          try clear c8b1
                          try clear c9
                          try clear c11
                          try clear c12
                          try clear c14
                          try clear c19
                          try clear c19b0
                          try clear c20
                          try clear c21
                          try clear c21b0
                          try clear c21b1
                          try clear c21b2
                          try clear c22
                          try clear c22b0
                          try clear c23
                          try clear c23b0
                          try clear c25
                          try clear c25b0
                          try clear c25b1
                          try clear c26
                          try clear c26b0
                          try clear c26b1
                          try clear c27
                          try clear c28
                          try clear c28b0
                          try clear c29
                          try clear c29b0
                          try clear c30
                          try clear c36
                          try clear p36
                          try clear q36
                          try clear hx36
                          try clear q38
                          try clear hx364_0
                          try clear hx364_1
                          try clear hx364_2
                          try clear hx364_3
                          try clear hx364_4
                          try clear p2
                          try clear p364
                          try clear q036
                          try clear q36
                          try clear q364
                          try clear q38
                          obtain ⟨x10_2, x12_2, rfl, HA, HK2, HO_0, HO_10, HO_11, HB⟩ := hrel
                          cases gk with
                          | zero => exact absurd HA.out (by simp [phaetonlaw06_ArbOrder.l0])
                          | succ k2 =>
                            have H := HA.out
                            clear HA
                            simp only [phaetonlaw06_ArbOrder.l0] at H
                            have HC40 := Aside0.mk H
                            clear H
                            go_upto_region 12 with (fail)
                            go_cut [64] (fun v64 wc => ∃ (kq : Nat) (x64_39 : Bool), v64 = .bool x64_39 ∧ Aside0 (phaetonlaw06_ArbOrder.j2 kq t360 l2 t359 t363 x10_2 y384 x12_2 x64_39 = some r) ∧ Aside0 (kq ≤ k2) ∧ Aside0 (Kd.N k35 35 wc w.heap.size (fun k_ => some k_ ≠ (u10 : Value).ownBlock ∧ some k_ ≠ (v385 : Value).ownBlock) (.slice (some ad364) t360.length co17) t360) ∧ Aside0 (Kd.N k35 35 wc w.heap.size (fun k_ => some k_ ≠ ((.slice (some ad364) t360.length co17) : Value).ownBlock ∧ some k_ ≠ (v385 : Value).ownBlock) u10 x10_2) ∧ Aside0 (Kd.N k35 35 wc w.heap.size (fun k_ => some k_ ≠ (u10 : Value).ownBlock) v385 y384) ∧ Aside0 (Below w.heap.size w wc))
                            case first =>
                              have H := HC40.out
                              clear HC40
                              by_cases c41 : x12_2 < (t360.length : Int)
                              · rw [if_pos c41] at H
                                have c41b0 : decide (x12_2 < (t360.length : Int)) = true := decide_eq_true c41
                                clear c41
                                (first | rw [c41b0] | (simp only [i64_w, i32_w]; rw [c41b0]) | skip)
                                have H' := Aside0.mk H
                                clear H
                                go_wp2
                                go_meet
                                case rel => exact ⟨_, (decide (x12_2 < (l2.length : Int))), (by first | rfl | (simp; done) | (simp [*]; done)), H', ⟨by have := HJ13.out; have := HK2.out; first | omega | exact Nat.le_refl _⟩, ⟨by (with_reducible repeat (first | apply Kd.N_alloc | apply Kd.N_drewN | apply Kd.N_drew)); exact HO_0.out⟩, ⟨by (with_reducible repeat (first | apply Kd.N_alloc | apply Kd.N_drewN | apply Kd.N_drew)); exact HO_10.out⟩, ⟨by (with_reducible repeat (first | apply Kd.N_alloc | apply Kd.N_drewN | apply Kd.N_drew)); exact HO_11.out⟩, ⟨by repeat (first | (with_reducible first | exact HB.out | apply below_alloc | apply pw_below_drewN | apply below_drew1) | exact HB.out)⟩⟩
                              · rw [if_neg c41] at H
                                have c41b0 : decide (x12_2 < (t360.length : Int)) = false := decide_eq_false c41
                                clear c41
                                (first | rw [c41b0] | (simp only [i64_w, i32_w]; rw [c41b0]) | skip)
                                have H' := Aside0.mk H
                                clear H
                                go_wp2
                                go_meet
                                case rel => exact ⟨_, (false), (by first | rfl | (simp; done) | (simp [*]; done)), H', ⟨by have := HJ13.out; have := HK2.out; first | omega | exact Nat.le_refl _⟩, ⟨by (with_reducible repeat (first | apply Kd.N_alloc | apply Kd.N_drewN | apply Kd.N_drew)); exact HO_0.out⟩, ⟨by (with_reducible repeat (first | apply Kd.N_alloc | apply Kd.N_drewN | apply Kd.N_drew)); exact HO_10.out⟩, ⟨by (with_reducible repeat (first | apply Kd.N_alloc | apply Kd.N_drewN | apply Kd.N_drew)); exact HO_11.out⟩, ⟨by repeat (first | (with_reducible first | exact HB.out | apply below_alloc | apply pw_below_drewN | apply below_drew1) | exact HB.out)⟩⟩
                            case rest =>
                              clear HC40
                              try clear c1
                              try clear c2
                              try clear p2
                              try clear c3
                              try clear p3
                              try clear q3
                              try clear hx3
                              try clear c4
                              try clear c5
                              try clear c6
                              try clear p6
                              try clear c7
                              try clear c7b0
                              try clear c7b1
                              try clear c7b2
                              try clear c8
                              try clear c8b0
                              try clear c8b1
                              try clear c9
                              try clear c11
                              try clear c12
                              try clear c14
                              try clear c19
                              try clear c19b0
                              try clear c20
                              try clear c21
                              try clear c21b0
                              try clear c21b1
                              try clear c21b2
                              try clear c22
                              try clear c22b0
                              try clear c23
                              try clear c23b0
                              try clear c25
                              try clear c25b0
                              try clear c25b1
                              try clear c26
                              try clear c26b0
                              try clear c26b1
                              try clear c27
                              try clear c28
                              try clear c28b0
                              try clear c29
                              try clear c29b0
                              try clear c30
                              try clear c36
                              try clear p36
                              try clear q36
                              try clear hx36
                              try clear q38
                              try clear c41
                              try clear c41b0
                              try clear hx364_0
                              try clear hx364_1
                              try clear hx364_2
                              try clear hx364_3
                              try clear hx364_4
                              try clear p2
                              try clear p3
                              try clear p36
                              try clear p364
                              try clear p6
                              try clear q036
                              try clear q3
                              try clear q36
                              try clear q364
                              try clear q38
                              obtain ⟨kq, x64_39, rfl, HA, HJ39, HO_0, HO_10, HO_11, HB⟩ := hcut
                              cases kq with
                              | zero => exact absurd HA.out (by simp [phaetonlaw06_ArbOrder.j2])
                              | succ kj39 =>
                                have H := HA.out
                                clear HA
                                simp only [phaetonlaw06_ArbOrder.j2] at H
                                by_cases c42 : x64_39 = true
                                · subst c42
                                  have H1 : (if 0 ≤ x12_2 then (if x12_2 < (l2.length : Int) then (if rdOf false l2 x12_2 = true then (if x12_2 < (t360.length : Int) then (if x10_2.length < 2513169434916 then (phaetonlaw06_ArbOrder.l0 kj39 t360 l2 t359 t363 (x10_2 ++ [(⟨(rd_T35 t360 x12_2).f0, (rd_T35 t360 x12_2).f1, (rd_T35 t360 x12_2).f2, (rd_T35 t360 x12_2).f3, (rd_T35 t360 x12_2).f4⟩ : S35)]) y384 (wrap64 (x12_2 + 1))) else (none)) else (none)) else (phaetonlaw06_ArbOrder.l0 kj39 t360 l2 t359 t363 x10_2 y384 (wrap64 (x12_2 + 1)))) else (none)) else (none)) = some r := by rw [if_pos rfl] at H; exact H
                                  clear H
                                  have H := H1
                                  clear H1
                                  by_cases c43 : 0 ≤ x12_2
                                  · rw [if_pos c43] at H
                                    have c43b0 : decide (0 ≤ x12_2) = true := decide_eq_true c43
                                    clear c43
                                    by_cases c44 : x12_2 < (l2.length : Int)
                                    · rw [if_pos c44] at H
                                      have c44b0 : decide (x12_2 < (l2.length : Int)) = true := decide_eq_true c44
                                      clear c44
                                      obtain ⟨bq45, hbq45⟩ : ∃ b_ : Bool, b_ = (rdOf false l2 x12_2) := ⟨_, rfl⟩
                                      replace H : (if bq45 = true then (if x12_2 < (t360.length : Int) then (if x10_2.length < 2513169434916 then (phaetonlaw06_ArbOrder.l0 kj39 t360 l2 t359 t363 (x10_2 ++ [(⟨(rd_T35 t360 x12_2).f0, (rd_T35 t360 x12_2).f1, (rd_T35 t360 x12_2).f2, (rd_T35 t360 x12_2).f3, (rd_T35 t360 x12_2).f4⟩ : S35)]) y384 (wrap64 (x12_2 + 1))) else (none)) else (none)) else (phaetonlaw06_ArbOrder.l0 kj39 t360 l2 t359 t363 x10_2 y384 (wrap64 (x12_2 + 1)))) = some r := by rw [← hbq45] at H; exact H
                                      have Nbq45 := Aside0.mk hbq45
                                      clear hbq45
                                      by_cases c46 : bq45 = true
                                      · subst c46
                                        have H1 : (if x12_2 < (t360.length : Int) then (if x10_2.length < 2513169434916 then (phaetonlaw06_ArbOrder.l0 kj39 t360 l2 t359 t363 (x10_2 ++ [(⟨(rd_T35 t360 x12_2).f0, (rd_T35 t360 x12_2).f1, (rd_T35 t360 x12_2).f2, (rd_T35 t360 x12_2).f3, (rd_T35 t360 x12_2).f4⟩ : S35)]) y384 (wrap64 (x12_2 + 1))) else (none)) else (none)) = some r := by rw [if_pos rfl] at H; exact H
                                        clear H
                                        have H := H1
                                        clear H1
                                        by_cases c47 : x12_2 < (t360.length : Int)
                                        · rw [if_pos c47] at H
                                          have c47b0 : decide (x12_2 < (t360.length : Int)) = true := decide_eq_true c47
                                          clear c47
                                          by_cases c48 : x10_2.length < 2513169434916
                                          · rw [if_pos c48] at H
                                            have LMc48 := Aside0.mk c48
                                            clear c48
                                            obtain ⟨y389, hy389⟩ : ∃ y_ : List (S35), y_ = (x10_2 ++ [(⟨(rd_T35 t360 x12_2).f0, (rd_T35 t360 x12_2).f1, (rd_T35 t360 x12_2).f2, (rd_T35 t360 x12_2).f3, (rd_T35 t360 x12_2).f4⟩ : S35)]) := ⟨_, rfl⟩
                                            replace H : (phaetonlaw06_ArbOrder.l0 kj39 t360 l2 t359 t363 y389 y384 (wrap64 (x12_2 + 1))) = some r := by first | (rw [hy389]; with_reducible exact H) | (have H2_ := (Option.bind_some _ _).symm.trans H; rw [hy389]; with_reducible exact H2_) | (have H2_ := (Option.bind_some _ _).symm.trans H; with_reducible exact H2_) | with_reducible exact H | (rw [hy389]; exact H) | exact H
                                            have Ny389 := Aside0.mk hy389
                                            clear hy389
                                            have H' := Aside0.mk H
                                            clear H
                                            have p387 : 0 ≤ (x12_2 : Int) := of_decide_eq_true (by first | (with_reducible assumption) | assumption)
                                            have q387 : x12_2 < (l2.length : Int) := of_decide_eq_true (by first | (with_reducible assumption) | assumption)
                                            obtain ⟨ad387, e387, hx387_0⟩ := Kd.at_bool HR2.out x12_2 p387 q387
                                            (try rw [← Nbq45.out] at hx387_0)
                                            cases e387
                                            replace hx387_0 := (HB.out.cell (World.block_lt_of_cell? w _ hx387_0)).trans hx387_0
                                            replace p387 := eq_true p387
                                            replace q387 := eq_true q387
                                            have p388 : 0 ≤ (x12_2 : Int) := of_decide_eq_true (by first | (with_reducible assumption) | assumption)
                                            have q388 : x12_2 < (t360.length : Int) := of_decide_eq_true (by first | (with_reducible assumption) | assumption)
                                            obtain ⟨ad388, A388_4, c388_4, e388, hx388_0, hx388_1, hx388_2, hx388_3, hx388_4, hl388_4, hi388_4⟩ := at_T35 (Kd.N_reads' HO_0.out).2.2 x12_2 p388 q388
                                            (try rw [← Nbq45.out] at hx388_0)
                                            (try rw [← Nbq45.out] at hx388_2)
                                            obtain rfl : ad364 = ad388 := (by injection e388)
                                            obtain ⟨ce388, hce388, hMe388, hcc388⟩ := Kd.N_get HO_0.out z35 x12_2 p388 (by first | exact q388 | exact of_decide_eq_true (by first | (with_reducible assumption) | assumption) | (have e_ := (Kd.N_reads' HO_0.out).1; omega))
                                            obtain ⟨ua388_4, uc388_4, rfl, ul388_4, ge388_4⟩ := k35_openF hMe388
                                            have hv388_4 := hcc388 4 _ rfl
                                            rw [add_field _ _ 4 (by omega)] at hv388_4
                                            replace hv388_4 := Option.some.inj (hv388_4.symm.trans hx388_4)
                                            injection hv388_4 with hva_ hvn_ hvc_
                                            rw [hva_] at ge388_4
                                            rw [hvc_] at ul388_4
                                            have HL388_4 := Aside0.mk (show Kd.V (Kd.int .u8) 5 _ w.heap.size _ _ ((rd_T35 t360 x12_2).f4) from Kd.V_mk ul388_4 ge388_4)
                                            clear hva_ hvn_ hvc_ ge388_4 ul388_4
                                            clear hcc388 hce388
                                            have HR388_4 := Aside0.mk hi388_4
                                            have HC388_4 := Aside0.mk hl388_4
                                            clear hi388_4 hl388_4
                                            replace p388 := eq_true p388
                                            replace q388 := eq_true q388
                                            go_wp2_with (first | ((with_reducible refine gate_builtin (b := .append) (xs := #[.tmp 71, .tmp 76]) rfl ?_); (try (refine gate_guard (by rfl) ?_; dsimp only)); at_builtin; refine Kd.N_append k35 (w0 := w) w.heap.size rfl (.tmp 71) (.tmp 76) 22 35 (.agg #[(.bool false), (.int .i64 0), (.bool false), (.int .i64 0), (.slice none 0 0)]) 56 rfl Try.underlying22 info35 rfl (by decide) (by omega) u10 x10_2 (⟨(rd_T35 t360 x12_2).f0, (rd_T35 t360 x12_2).f1, (rd_T35 t360 x12_2).f2, (rd_T35 t360 x12_2).f3, (rd_T35 t360 x12_2).f4⟩ : S35) [.bool ((rd_T35 t360 x12_2).f0), .int .i64 ((rd_T35 t360 x12_2).f1), .bool ((rd_T35 t360 x12_2).f2), .int .i64 ((rd_T35 t360 x12_2).f3), .slice A388_4 ((rd_T35 t360 x12_2).f4).length c388_4] (fun k_ => some k_ ≠ (.slice (some ad364) t360.length co17 : Value).ownBlock ∧ some k_ ≠ (v385 : Value).ownBlock) (fun k_ => ((fun k_ => some k_ ≠ (.slice (some ad364) t360.length co17 : Value).ownBlock ∧ some k_ ≠ (v385 : Value).ownBlock)) k_ ∧ some k_ ≠ (u10 : Value).ownBlock) rfl rfl ?aP (fun _ hk => hk) ?aF ?aO ?aB ?aS ?aL ?_; (case aP => exact (k35_mkF _ _ (⟨(rd_T35 t360 x12_2).f0, (rd_T35 t360 x12_2).f1, (rd_T35 t360 x12_2).f2, (rd_T35 t360 x12_2).f3, (rd_T35 t360 x12_2).f4⟩ : S35) (Kd.V_reads' (Kd.V_mono (ok' := (fun k_ => ((fun k_ => some k_ ≠ (.slice (some ad364) t360.length co17 : Value).ownBlock ∧ some k_ ≠ (v385 : Value).ownBlock)) k_ ∧ some k_ ≠ (u10 : Value).ownBlock)) (HL388_4.out) (fun k_ hk => ⟨⟨hk.2, hk.1.2⟩, hk.1.1⟩))).2.1 (Kd.V_F (Kd.V_mono (ok' := (fun k_ => ((fun k_ => some k_ ≠ (.slice (some ad364) t360.length co17 : Value).ownBlock ∧ some k_ ≠ (v385 : Value).ownBlock)) k_ ∧ some k_ ≠ (u10 : Value).ownBlock)) (HL388_4.out) (fun k_ hk => ⟨⟨hk.2, hk.1.2⟩, hk.1.1⟩))))); (case aB => exact (by repeat (first | (with_reducible first | exact HB.out | apply below_alloc | apply pw_below_drewN | apply below_drew1) | exact HB.out))); (case aF => exact (fun k_ hk => ⟨Kd.fresh' (Kd.N_lt (by (with_reducible repeat (first | apply Kd.N_alloc | apply Kd.N_drewN | apply Kd.N_drew)); exact HO_0.out)) k_ hk, Kd.fresh' (Kd.N_lt (by (with_reducible repeat (first | apply Kd.N_alloc | apply Kd.N_drewN | apply Kd.N_drew)); exact HO_11.out)) k_ hk⟩)); (case aO => exact (by (with_reducible repeat (first | apply Kd.N_alloc | apply Kd.N_drewN | apply Kd.N_drew)); exact HO_10.out)); (case aS => exact (below_size (by repeat (first | (with_reducible first | exact HB.out | apply below_alloc | apply pw_below_drewN | apply below_drew1) | exact HB.out)))); (case aL => have := LMc48.out; omega); intro v390 w49 ho hb hg hat; rw [← Ny389.out] at ho; have n0_ := Aside0.mk (Kd.N_afterv (ok := (fun k_ => some k_ ≠ (v385 : Value).ownBlock)) (by (with_reducible repeat (first | apply Kd.N_alloc | apply Kd.N_drewN | apply Kd.N_drew)); exact Kd.N_mono HO_0.out (fun _ hk => ⟨hk.2, hk.1⟩)) hg hat); have n1_ := Aside0.mk (Kd.N_afterv (ok := (fun _ => True)) (by (with_reducible repeat (first | apply Kd.N_alloc | apply Kd.N_drewN | apply Kd.N_drew)); exact Kd.N_mono HO_11.out (fun _ hk => ⟨trivial, hk⟩)) hg hat); have n2_ := Aside0.mk (Kd.V_afterv (ok := (fun k_ => some k_ ≠ (.slice (some ad364) t360.length co17 : Value).ownBlock ∧ some k_ ≠ (v385 : Value).ownBlock)) (by (with_reducible repeat (first | apply Kd.V_alloc | apply Kd.V_drewN | apply Kd.V_drew)); exact Kd.V_mono HL388_4.out (fun _ hk => ⟨⟨hk.2, hk.1.2⟩, hk.1.1⟩)) hg hat); have n3_ := Aside0.mk (hb); have n4_ := Aside0.mk (ho); clear HO_0; clear HO_11; clear HL388_4; clear HB; clear HO_10; have HO_0 := n0_; have HO_11 := n1_; have HL388_4 := n2_; have HB := n3_; have HO391 := n4_; clear n0_ n1_ n2_ n3_ n4_; clear ho hb hg hat))
                                            go_roundg kj39
                                            case measure => have := HJ13.out; have := HK2.out; have := HJ39.out; omega
                                            case rel => exact ⟨(y389), (wrap64 (x12_2 + 1)), (by first | rfl | (simp; done) | (simp [*]; done)), H', ⟨by have := HJ13.out; have := HK2.out; have := HJ39.out; omega⟩, ⟨by (with_reducible repeat (first | apply Kd.N_alloc | apply Kd.N_drewN | apply Kd.N_drew)); exact Kd.N_mono HO_0.out (fun _ hk => ⟨hk.2, hk.1⟩)⟩, ⟨by (with_reducible repeat (first | apply Kd.N_alloc | apply Kd.N_drewN | apply Kd.N_drew)); exact HO391.out⟩, ⟨by (with_reducible repeat (first | apply Kd.N_alloc | apply Kd.N_drewN | apply Kd.N_drew)); exact Kd.N_mono HO_11.out (fun _ hk => hk.2)⟩, ⟨by repeat (first | (with_reducible first | exact HB.out | apply below_alloc | apply pw_below_drewN | apply below_drew1) | exact HB.out)⟩⟩
                                          · rw [if_neg c48] at H
                                            exact absurd H (by simp)
                                        · rw [if_neg c47] at H
                                          exact absurd H (by simp)
                                      · replace c46 := Bool.eq_false_iff.mpr c46
                                        subst c46
                                        have H1 : (phaetonlaw06_ArbOrder.l0 kj39 t360 l2 t359 t363 x10_2 y384 (wrap64 (x12_2 + 1))) = some r := by rw [if_neg (show ¬ (false = true) by decide)] at H; exact H
                                        clear H
                                        have H := H1
                                        clear H1
                                        have H' := Aside0.mk H
                                        clear H
                                        have p387 : 0 ≤ (x12_2 : Int) := of_decide_eq_true (by first | (with_reducible assumption) | assumption)
                                        have q387 : x12_2 < (l2.length : Int) := of_decide_eq_true (by first | (with_reducible assumption) | assumption)
                                        obtain ⟨ad387, e387, hx387_0⟩ := Kd.at_bool HR2.out x12_2 p387 q387
                                        (try rw [← Nbq45.out] at hx387_0)
                                        cases e387
                                        replace hx387_0 := (HB.out.cell (World.block_lt_of_cell? w _ hx387_0)).trans hx387_0
                                        replace p387 := eq_true p387
                                        replace q387 := eq_true q387
                                        go_wp2
                                        go_roundg kj39
                                        case measure => have := HJ13.out; have := HK2.out; have := HJ39.out; omega
                                        case rel => exact ⟨(x10_2), (wrap64 (x12_2 + 1)), (by first | rfl | (simp; done) | (simp [*]; done)), H', ⟨by have := HJ13.out; have := HK2.out; have := HJ39.out; omega⟩, ⟨by (with_reducible repeat (first | apply Kd.N_alloc | apply Kd.N_drewN | apply Kd.N_drew)); exact HO_0.out⟩, ⟨by (with_reducible repeat (first | apply Kd.N_alloc | apply Kd.N_drewN | apply Kd.N_drew)); exact HO_10.out⟩, ⟨by (with_reducible repeat (first | apply Kd.N_alloc | apply Kd.N_drewN | apply Kd.N_drew)); exact HO_11.out⟩, ⟨by repeat (first | (with_reducible first | exact HB.out | apply below_alloc | apply pw_below_drewN | apply below_drew1) | exact HB.out)⟩⟩
                                    · rw [if_neg c44] at H
                                      exact absurd H (by simp)
                                  · rw [if_neg c43] at H
                                    exact absurd H (by simp)
                                · replace c42 := Bool.eq_false_iff.mpr c42
                                  subst c42
                                  have H1 : ((arb_Win.f y384).bind fun t392 => (if t392 < 0 then (phaetonlaw06_ArbOrder.j3 kj39 t360 t359 x10_2 y384 true) else (if t392 ≥ (y384.length : Int) then (phaetonlaw06_ArbOrder.j3 kj39 t360 t359 x10_2 y384 true) else (if 0 ≤ t392 then (if t392 < (y384.length : Int) then ((phaetonref06_Rank.f kj39 ((rd_T35 y384 t392).f0) ((rd_T35 y384 t392).f1) ((rd_T35 y384 t392).f2) ((rd_T35 y384 t392).f3) ((rd_T35 y384 t392).f4)).bind fun t394 => (if 0 ≤ t363 then (if t363 < (t360.length : Int) then ((phaetonref06_Rank.f kj39 ((rd_T35 t360 t363).f0) ((rd_T35 t360 t363).f1) ((rd_T35 t360 t363).f2) ((rd_T35 t360 t363).f3) ((rd_T35 t360 t363).f4)).bind fun t398 => ((phaetonref03_Ints.f kj39 t394 t398).bind fun t401 => (phaetonlaw06_ArbOrder.j3 kj39 t360 t359 x10_2 y384 (!t401)))) else (none)) else (none))) else (none)) else (none))))) = some r := by rw [if_neg (show ¬ (false = true) by decide)] at H; exact H
                                  clear H
                                  have H := H1
                                  clear H1
                                  replace H := Option.bind_eq_some_iff.mp H
                                  obtain ⟨t392, A500, H⟩ := H
                                  replace H : (if t392 < 0 then (phaetonlaw06_ArbOrder.j3 kj39 t360 t359 x10_2 y384 true) else (if t392 ≥ (y384.length : Int) then (phaetonlaw06_ArbOrder.j3 kj39 t360 t359 x10_2 y384 true) else (if 0 ≤ t392 then (if t392 < (y384.length : Int) then ((phaetonref06_Rank.f kj39 ((rd_T35 y384 t392).f0) ((rd_T35 y384 t392).f1) ((rd_T35 y384 t392).f2) ((rd_T35 y384 t392).f3) ((rd_T35 y384 t392).f4)).bind fun t394 => (if 0 ≤ t363 then (if t363 < (t360.length : Int) then ((phaetonref06_Rank.f kj39 ((rd_T35 t360 t363).f0) ((rd_T35 t360 t363).f1) ((rd_T35 t360 t363).f2) ((rd_T35 t360 t363).f3) ((rd_T35 t360 t363).f4)).bind fun t398 => ((phaetonref03_Ints.f kj39 t394 t398).bind fun t401 => (phaetonlaw06_ArbOrder.j3 kj39 t360 t359 x10_2 y384 (!t401)))) else (none)) else (none))) else (none)) else (none)))) = some r := H
                                  have A50 := Aside0.mk A500
                                  clear A500
                                  have HC51 := Aside0.mk H
                                  clear H
                                  obtain ⟨Ao52, co52, eo52⟩ := Kd.N_slice HO_11.out
                                  subst eo52
                                  go_upto_region 17 with (first | ((with_reducible refine gate_callee (f := 14) rfl ?_); refine goesL_ (some 79) rfl rfl Try.func14 (by kernel_rfl) rfl #[.slice Ao52 y384.length co52] rfl (by (try simp only [List.map_toArray, List.map_cons, List.map_nil]); first | done | rfl | (simp only [List.length_drop, List.length_take]; rfl)) ?_; (with_reducible refine (arb_Win.calls _ _ y384 t392 _ ?side1 ?side2 A50.out).mono ?_); (case side1 => repeat (first | exact (Kd.N_reads' HO_11.out).2.2 | (with_reducible refine Kd.C_alloc ?_ _) | (with_reducible refine Kd.C_drewN ?_ _) | (with_reducible refine Kd.C_drew ?_))); (case side2 => exact (Kd.N_reads' HO_11.out).2.1); rintro e w53 ⟨rfl, hb⟩; refine ⟨_, rfl, ?_⟩; have n0_ := Aside0.mk (Kd.N_below (by (with_reducible repeat (first | apply Kd.N_alloc | apply Kd.N_drewN | apply Kd.N_drew)); exact HO_0.out) hb); have n1_ := Aside0.mk (Kd.N_below (by (with_reducible repeat (first | apply Kd.N_alloc | apply Kd.N_drewN | apply Kd.N_drew)); exact HO_10.out) hb); have n2_ := Aside0.mk (Kd.N_below (by (with_reducible repeat (first | apply Kd.N_alloc | apply Kd.N_drewN | apply Kd.N_drew)); exact HO_11.out) hb); have n3_ := Aside0.mk (below_step (by repeat (first | (with_reducible first | exact HB.out | apply below_alloc | apply pw_below_drewN | apply below_drew1) | exact HB.out)) hb); clear HO_0; clear HO_10; clear HO_11; clear HB; have HO_0 := n0_; have HO_10 := n1_; have HO_11 := n2_; have HB := n3_; clear n0_ n1_ n2_ n3_; (try clear hb); (try clear hb2); (try clear hk); (try clear hi)))
                                  (try simp only [Act.put, List.setIfInBounds_toArray, List.set_cons_zero, List.set_cons_succ])
                                  go_cut [101] (fun v101 wc => ∃ (kq : Nat) (x101_50 : Bool), v101 = .bool x101_50 ∧ Aside0 (phaetonlaw06_ArbOrder.j3 kq t360 t359 x10_2 y384 x101_50 = some r) ∧ Aside0 (kq ≤ kj39) ∧ Aside0 (Kd.N k35 35 wc w.heap.size (fun k_ => some k_ ≠ (u10 : Value).ownBlock ∧ some k_ ≠ ((.slice Ao52 y384.length co52) : Value).ownBlock) (.slice (some ad364) t360.length co17) t360) ∧ Aside0 (Kd.N k35 35 wc w.heap.size (fun k_ => some k_ ≠ ((.slice (some ad364) t360.length co17) : Value).ownBlock ∧ some k_ ≠ ((.slice Ao52 y384.length co52) : Value).ownBlock) u10 x10_2) ∧ Aside0 (Kd.N k35 35 wc w.heap.size (fun k_ => some k_ ≠ (u10 : Value).ownBlock) (.slice Ao52 y384.length co52) y384) ∧ Aside0 (Below w.heap.size w wc))
                                  case first =>
                                    have H := HC51.out
                                    clear HC51
                                    by_cases c54 : t392 < 0
                                    · rw [if_pos c54] at H
                                      have c54b0 : decide (t392 < 0) = true := decide_eq_true c54
                                      clear c54
                                      (first | rw [c54b0] | (simp only [i64_w, i32_w]; rw [c54b0]) | skip)
                                      have H' := Aside0.mk H
                                      clear H
                                      try go_wp2
                                      have n0_ := Aside0.mk (Kd.N_drew HO_0.out)
                                      have n1_ := Aside0.mk (Kd.N_drew HO_10.out)
                                      have n2_ := Aside0.mk (Kd.N_drew HO_11.out)
                                      have n3_ := Aside0.mk (below_drew1 HB.out)
                                      clear HO_0
                                      clear HO_10
                                      clear HO_11
                                      clear HB
                                      have HO_0 := n0_
                                      have HO_10 := n1_
                                      have HO_11 := n2_
                                      have HB := n3_
                                      clear n0_ n1_ n2_ n3_
                                      refine start_ (n := 22) (S := fun w' => True) (ds := []) #[false, false, false, false, false, false, false, false, false, false, false, false, false, false, false, false, false, false, false, false, false, false] (by kernel_rfl) rfl rfl trivial (fun hHeld => ?_); refine with_tabW phaetonlaw06_ArbOrder.tab17 phaetonlaw06_ArbOrder.bits17 (fun HT_ HW_ => ?_)
                                      generalize w53.drew = w55 at HO_0 HO_10 HO_11 HB hHeld ⊢
                                      refine pure_ (i := 0) (N := some 80) (v := ?_) (a' := ?_) #[true, false, false, false, false, false, false, false, false, false, false, false, false, false, false, false, false, false, false, false, false, false] rfl rfl (any_of HT_.out (by kernel_rfl)) (fun _ _ _ h => h) (Or.inl ⟨by rfl, ?_⟩) ?_ ?_
                                      rotate_left
                                      · intro w'
                                        go_simp
                                        with_reducible rfl
                                      rotate_left
                                      · simp only [Act.put, List.setIfInBounds_toArray, List.set_cons_zero, List.set_cons_succ, i64_w, i32_w]
                                        rfl
                                      refine pure_ (i := 1) (N := some 81) (v := ?_) (a' := ?_) #[true, true, false, false, false, false, false, false, false, false, false, false, false, false, false, false, false, false, false, false, false, false] rfl rfl (any_of HT_.out (by kernel_rfl)) (fun _ _ _ h => h) (Or.inl ⟨by rfl, ?_⟩) ?_ ?_
                                      rotate_left
                                      · intro w'
                                        go_simp
                                        with_reducible rfl
                                      rotate_left
                                      · simp only [Act.put, List.setIfInBounds_toArray, List.set_cons_zero, List.set_cons_succ, i64_w, i32_w]
                                        rfl
                                      refine pure_ (i := 2) (N := some 82) (v := ?_) (a' := ?_) #[true, true, true, false, false, false, false, false, false, false, false, false, false, false, false, false, false, false, false, false, false, false] rfl rfl (any_of HT_.out (by kernel_rfl)) (fun _ _ _ h => h) (Or.inl ⟨by rfl, ?_⟩) ?_ ?_
                                      rotate_left
                                      · intro w'
                                        go_simp
                                        with_reducible rfl
                                      rotate_left
                                      · simp only [Act.put, List.setIfInBounds_toArray, List.set_cons_zero, List.set_cons_succ, i64_w, i32_w]
                                        rfl
                                      refine pure_ (i := 3) (N := some 83) (v := undef) (a' := ?_) #[true, true, true, true, false, false, false, false, false, false, false, false, false, false, false, false, false, false, false, false, false, false] rfl rfl (any_of HT_.out (by kernel_rfl)) (fun _ _ _ h => h) (Or.inr ⟨by rfl, rfl⟩) ?_ ?_
                                      rotate_left
                                      · simp only [Act.put, List.setIfInBounds_toArray, List.set_cons_zero, List.set_cons_succ, i64_w, i32_w]
                                        rfl
                                      refine pure_ (i := 4) (N := some 84) (v := undef) (a' := ?_) #[true, true, true, true, true, false, false, false, false, false, false, false, false, false, false, false, false, false, false, false, false, false] rfl rfl (any_of HT_.out (by kernel_rfl)) (fun _ _ _ h => h) (Or.inr ⟨by rfl, rfl⟩) ?_ ?_
                                      rotate_left
                                      · simp only [Act.put, List.setIfInBounds_toArray, List.set_cons_zero, List.set_cons_succ, i64_w, i32_w]
                                        rfl
                                      refine pure_ (i := 5) (N := some 85) (v := undef) (a' := ?_) #[true, true, true, true, true, true, false, false, false, false, false, false, false, false, false, false, false, false, false, false, false, false] rfl rfl (any_of HT_.out (by kernel_rfl)) (fun _ _ _ h => h) (Or.inr ⟨by rfl, rfl⟩) ?_ ?_
                                      rotate_left
                                      · simp only [Act.put, List.setIfInBounds_toArray, List.set_cons_zero, List.set_cons_succ, i64_w, i32_w]
                                        rfl
                                      refine pure_ (i := 6) (N := some 86) (v := undef) (a' := ?_) #[true, true, true, true, true, true, true, false, false, false, false, false, false, false, false, false, false, false, false, false, false, false] rfl rfl (any_of HT_.out (by kernel_rfl)) (fun _ _ _ h => h) (Or.inr ⟨by rfl, rfl⟩) ?_ ?_
                                      rotate_left
                                      · simp only [Act.put, List.setIfInBounds_toArray, List.set_cons_zero, List.set_cons_succ, i64_w, i32_w]
                                        rfl
                                      refine pure_ (i := 7) (N := some 87) (v := ?_) (a' := ?_) #[true, true, true, true, true, true, true, true, false, false, false, false, false, false, false, false, false, false, false, false, false, false] rfl rfl (any_of HT_.out (by kernel_rfl)) (fun _ _ _ h => h) (Or.inl ⟨by rfl, ?_⟩) ?_ ?_
                                      rotate_left
                                      · intro w'
                                        go_simp
                                        with_reducible rfl
                                      rotate_left
                                      · simp only [Act.put, List.setIfInBounds_toArray, List.set_cons_zero, List.set_cons_succ, i64_w, i32_w]
                                        rfl
                                      refine pure_ (i := 8) (N := some 88) (v := ?_) (a' := ?_) #[true, true, true, true, true, true, true, true, true, false, false, false, false, false, false, false, false, false, false, false, false, false] rfl rfl (any_of HT_.out (by kernel_rfl)) (fun _ _ _ h => h) (Or.inl ⟨by rfl, ?_⟩) ?_ ?_
                                      rotate_left
                                      · intro w'
                                        go_simp
                                        with_reducible rfl
                                      rotate_left
                                      · simp only [Act.put, List.setIfInBounds_toArray, List.set_cons_zero, List.set_cons_succ, i64_w, i32_w]
                                        rfl
                                      refine pure_ (i := 9) (N := some 89) (v := undef) (a' := ?_) #[true, true, true, true, true, true, true, true, true, true, false, false, false, false, false, false, false, false, false, false, false, false] rfl rfl (any_of HT_.out (by kernel_rfl)) (fun _ _ _ h => h) (Or.inr ⟨by rfl, rfl⟩) ?_ ?_
                                      rotate_left
                                      · simp only [Act.put, List.setIfInBounds_toArray, List.set_cons_zero, List.set_cons_succ, i64_w, i32_w]
                                        rfl
                                      refine pure_ (i := 10) (N := some 90) (v := undef) (a' := ?_) #[true, true, true, true, true, true, true, true, true, true, true, false, false, false, false, false, false, false, false, false, false, false] rfl rfl (any_of HT_.out (by kernel_rfl)) (fun _ _ _ h => h) (Or.inr ⟨by rfl, rfl⟩) ?_ ?_
                                      rotate_left
                                      · simp only [Act.put, List.setIfInBounds_toArray, List.set_cons_zero, List.set_cons_succ, i64_w, i32_w]
                                        rfl
                                      refine pure_ (i := 11) (N := some 91) (v := undef) (a' := ?_) #[true, true, true, true, true, true, true, true, true, true, true, true, false, false, false, false, false, false, false, false, false, false] rfl rfl (any_of HT_.out (by kernel_rfl)) (fun _ _ _ h => h) (Or.inr ⟨by rfl, rfl⟩) ?_ ?_
                                      rotate_left
                                      · simp only [Act.put, List.setIfInBounds_toArray, List.set_cons_zero, List.set_cons_succ, i64_w, i32_w]
                                        rfl
                                      refine pure_ (i := 12) (N := some 92) (v := undef) (a' := ?_) #[true, true, true, true, true, true, true, true, true, true, true, true, true, false, false, false, false, false, false, false, false, false] rfl rfl (any_of HT_.out (by kernel_rfl)) (fun _ _ _ h => h) (Or.inr ⟨by rfl, rfl⟩) ?_ ?_
                                      rotate_left
                                      · simp only [Act.put, List.setIfInBounds_toArray, List.set_cons_zero, List.set_cons_succ, i64_w, i32_w]
                                        rfl
                                      refine pure_ (i := 13) (N := some 93) (v := undef) (a' := ?_) #[true, true, true, true, true, true, true, true, true, true, true, true, true, true, false, false, false, false, false, false, false, false] rfl rfl (any_of HT_.out (by kernel_rfl)) (fun _ _ _ h => h) (Or.inr ⟨by rfl, rfl⟩) ?_ ?_
                                      rotate_left
                                      · simp only [Act.put, List.setIfInBounds_toArray, List.set_cons_zero, List.set_cons_succ, i64_w, i32_w]
                                        rfl
                                      refine pure_ (i := 14) (N := some 94) (v := undef) (a' := ?_) #[true, true, true, true, true, true, true, true, true, true, true, true, true, true, true, false, false, false, false, false, false, false] rfl rfl (any_of HT_.out (by kernel_rfl)) (fun _ _ _ h => h) (Or.inr ⟨by rfl, rfl⟩) ?_ ?_
                                      rotate_left
                                      · simp only [Act.put, List.setIfInBounds_toArray, List.set_cons_zero, List.set_cons_succ, i64_w, i32_w]
                                        rfl
                                      refine pure_ (i := 15) (N := some 95) (v := undef) (a' := ?_) #[true, true, true, true, true, true, true, true, true, true, true, true, true, true, true, true, false, false, false, false, false, false] rfl rfl (any_of HT_.out (by kernel_rfl)) (fun _ _ _ h => h) (Or.inr ⟨by rfl, rfl⟩) ?_ ?_
                                      rotate_left
                                      · simp only [Act.put, List.setIfInBounds_toArray, List.set_cons_zero, List.set_cons_succ, i64_w, i32_w]
                                        rfl
                                      refine pure_ (i := 16) (N := some 96) (v := undef) (a' := ?_) #[true, true, true, true, true, true, true, true, true, true, true, true, true, true, true, true, true, false, false, false, false, false] rfl rfl (any_of HT_.out (by kernel_rfl)) (fun _ _ _ h => h) (Or.inr ⟨by rfl, rfl⟩) ?_ ?_
                                      rotate_left
                                      · simp only [Act.put, List.setIfInBounds_toArray, List.set_cons_zero, List.set_cons_succ, i64_w, i32_w]
                                        rfl
                                      refine pure_ (i := 17) (N := some 97) (v := undef) (a' := ?_) #[true, true, true, true, true, true, true, true, true, true, true, true, true, true, true, true, true, true, false, false, false, false] rfl rfl (any_of HT_.out (by kernel_rfl)) (fun _ _ _ h => h) (Or.inr ⟨by rfl, rfl⟩) ?_ ?_
                                      rotate_left
                                      · simp only [Act.put, List.setIfInBounds_toArray, List.set_cons_zero, List.set_cons_succ, i64_w, i32_w]
                                        rfl
                                      refine pure_ (i := 18) (N := some 98) (v := undef) (a' := ?_) #[true, true, true, true, true, true, true, true, true, true, true, true, true, true, true, true, true, true, true, false, false, false] rfl rfl (any_of HT_.out (by kernel_rfl)) (fun _ _ _ h => h) (Or.inr ⟨by rfl, rfl⟩) ?_ ?_
                                      rotate_left
                                      · simp only [Act.put, List.setIfInBounds_toArray, List.set_cons_zero, List.set_cons_succ, i64_w, i32_w]
                                        rfl
                                      refine pure_ (i := 19) (N := some 99) (v := undef) (a' := ?_) #[true, true, true, true, true, true, true, true, true, true, true, true, true, true, true, true, true, true, true, true, false, false] rfl rfl (any_of HT_.out (by kernel_rfl)) (fun _ _ _ h => h) (Or.inr ⟨by rfl, rfl⟩) ?_ ?_
                                      rotate_left
                                      · simp only [Act.put, List.setIfInBounds_toArray, List.set_cons_zero, List.set_cons_succ, i64_w, i32_w]
                                        rfl
                                      refine pure_ (i := 20) (N := some 100) (v := undef) (a' := ?_) #[true, true, true, true, true, true, true, true, true, true, true, true, true, true, true, true, true, true, true, true, true, false] rfl rfl (any_of HT_.out (by kernel_rfl)) (fun _ _ _ h => h) (Or.inr ⟨by rfl, rfl⟩) ?_ ?_
                                      rotate_left
                                      · simp only [Act.put, List.setIfInBounds_toArray, List.set_cons_zero, List.set_cons_succ, i64_w, i32_w]
                                        rfl
                                      refine pure_ (i := 21) (N := some 101) (v := ?_) (a' := ?_) #[true, true, true, true, true, true, true, true, true, true, true, true, true, true, true, true, true, true, true, true, true, true] rfl rfl (any_of HT_.out (by kernel_rfl)) (fun _ _ _ h => h) (Or.inl ⟨by rfl, ?_⟩) ?_ ?_
                                      rotate_left
                                      · intro w'
                                        go_simp
                                        with_reducible rfl
                                      rotate_left
                                      · simp only [Act.put, List.setIfInBounds_toArray, List.set_cons_zero, List.set_cons_succ, i64_w, i32_w]
                                        rfl
                                      refine done_ (done_of HT_.out (by kernel_rfl)) ?_
                                      try go_wp2
                                      go_meet
                                      case rel => exact ⟨_, (true), (by first | rfl | (simp; done) | (simp [*]; done)), H', ⟨by have := HJ13.out; have := HK2.out; have := HJ39.out; first | omega | exact Nat.le_refl _⟩, ⟨by (with_reducible repeat (first | apply Kd.N_alloc | apply Kd.N_drewN | apply Kd.N_drew)); exact HO_0.out⟩, ⟨by (with_reducible repeat (first | apply Kd.N_alloc | apply Kd.N_drewN | apply Kd.N_drew)); exact HO_10.out⟩, ⟨by (with_reducible repeat (first | apply Kd.N_alloc | apply Kd.N_drewN | apply Kd.N_drew)); exact HO_11.out⟩, ⟨by repeat (first | (with_reducible first | exact HB.out | apply below_alloc | apply pw_below_drewN | apply below_drew1) | exact HB.out)⟩⟩
                                    · rw [if_neg c54] at H
                                      have c54b0 : decide (t392 < 0) = false := decide_eq_false c54
                                      clear c54
                                      (first | rw [c54b0] | (simp only [i64_w, i32_w]; rw [c54b0]) | skip)
                                      by_cases c56 : t392 ≥ (y384.length : Int)
                                      · rw [if_pos c56] at H
                                        have c56b0 : decide ((y384.length : Int) ≤ t392) = true := decide_eq_true c56
                                        clear c56
                                        have H' := Aside0.mk H
                                        clear H
                                        try go_wp2
                                        have n0_ := Aside0.mk (Kd.N_drew HO_0.out)
                                        have n1_ := Aside0.mk (Kd.N_drew HO_10.out)
                                        have n2_ := Aside0.mk (Kd.N_drew HO_11.out)
                                        have n3_ := Aside0.mk (below_drew1 HB.out)
                                        clear HO_0
                                        clear HO_10
                                        clear HO_11
                                        clear HB
                                        have HO_0 := n0_
                                        have HO_10 := n1_
                                        have HO_11 := n2_
                                        have HB := n3_
                                        clear n0_ n1_ n2_ n3_
                                        refine start_ (n := 22) (S := fun w' => True) (ds := []) #[false, false, false, false, false, false, false, false, false, false, false, false, false, false, false, false, false, false, false, false, false, false] (by kernel_rfl) rfl rfl trivial (fun hHeld => ?_); refine with_tabW phaetonlaw06_ArbOrder.tab17 phaetonlaw06_ArbOrder.bits17 (fun HT_ HW_ => ?_)
                                        generalize w53.drew = w57 at HO_0 HO_10 HO_11 HB hHeld ⊢
                                        refine pure_ (i := 0) (N := some 80) (v := ?_) (a' := ?_) #[true, false, false, false, false, false, false, false, false, false, false, false, false, false, false, false, false, false, false, false, false, false] rfl rfl (any_of HT_.out (by kernel_rfl)) (fun _ _ _ h => h) (Or.inl ⟨by rfl, ?_⟩) ?_ ?_
                                        rotate_left
                                        · intro w'
                                          go_simp
                                          with_reducible rfl
                                        rotate_left
                                        · simp only [Act.put, List.setIfInBounds_toArray, List.set_cons_zero, List.set_cons_succ, i64_w, i32_w]
                                          rfl
                                        refine pure_ (i := 1) (N := some 81) (v := ?_) (a' := ?_) #[true, true, false, false, false, false, false, false, false, false, false, false, false, false, false, false, false, false, false, false, false, false] rfl rfl (any_of HT_.out (by kernel_rfl)) (fun _ _ _ h => h) (Or.inl ⟨by rfl, ?_⟩) ?_ ?_
                                        rotate_left
                                        · intro w'
                                          go_simp
                                          with_reducible rfl
                                        rotate_left
                                        · simp only [Act.put, List.setIfInBounds_toArray, List.set_cons_zero, List.set_cons_succ, i64_w, i32_w]
                                          rfl
                                        refine pure_ (i := 2) (N := some 82) (v := ?_) (a' := ?_) #[true, true, true, false, false, false, false, false, false, false, false, false, false, false, false, false, false, false, false, false, false, false] rfl rfl (any_of HT_.out (by kernel_rfl)) (fun _ _ _ h => h) (Or.inl ⟨by rfl, ?_⟩) ?_ ?_
                                        rotate_left
                                        · intro w'
                                          go_simp
                                          with_reducible rfl
                                        rotate_left
                                        · simp only [Act.put, List.setIfInBounds_toArray, List.set_cons_zero, List.set_cons_succ, i64_w, i32_w]
                                          rfl
                                        refine pure_ (i := 3) (N := some 83) (v := ?_) (a' := ?_) #[true, true, true, true, false, false, false, false, false, false, false, false, false, false, false, false, false, false, false, false, false, false] rfl rfl (any_of HT_.out (by kernel_rfl)) (fun _ _ _ h => h) (Or.inl ⟨by rfl, ?_⟩) ?_ ?_
                                        rotate_left
                                        · intro w'
                                          go_simp
                                          with_reducible rfl
                                        rotate_left
                                        · simp only [Act.put, List.setIfInBounds_toArray, List.set_cons_zero, List.set_cons_succ, i64_w, i32_w]
                                          rfl
                                        refine pure_ (i := 4) (N := some 84) (v := ?_) (a' := ?_) #[true, true, true, true, true, false, false, false, false, false, false, false, false, false, false, false, false, false, false, false, false, false] rfl rfl (any_of HT_.out (by kernel_rfl)) (fun _ _ _ h => h) (Or.inl ⟨by rfl, ?_⟩) ?_ ?_
                                        rotate_left
                                        · intro w'
                                          go_simp
                                          with_reducible rfl
                                        rotate_left
                                        · simp only [Act.put, List.setIfInBounds_toArray, List.set_cons_zero, List.set_cons_succ, i64_w, i32_w]
                                          rfl
                                        refine pure_ (i := 5) (N := some 85) (v := ?_) (a' := ?_) #[true, true, true, true, true, true, false, false, false, false, false, false, false, false, false, false, false, false, false, false, false, false] rfl rfl (any_of HT_.out (by kernel_rfl)) (fun _ _ _ h => h) (Or.inl ⟨by rfl, ?_⟩) ?_ ?_
                                        rotate_left
                                        · intro w'
                                          go_simp
                                          with_reducible rfl
                                        rotate_left
                                        · simp only [Act.put, List.setIfInBounds_toArray, List.set_cons_zero, List.set_cons_succ, i64_w, i32_w]
                                          rfl
                                        refine pure_ (i := 6) (N := some 86) (v := ?_) (a' := ?_) #[true, true, true, true, true, true, true, false, false, false, false, false, false, false, false, false, false, false, false, false, false, false] rfl rfl (any_of HT_.out (by kernel_rfl)) (fun _ _ _ h => h) (Or.inl ⟨by rfl, ?_⟩) ?_ ?_
                                        rotate_left
                                        · intro w'
                                          go_simp
                                          with_reducible rfl
                                        rotate_left
                                        · simp only [Act.put, List.setIfInBounds_toArray, List.set_cons_zero, List.set_cons_succ, i64_w, i32_w]
                                          rfl
                                        refine pure_ (i := 7) (N := some 87) (v := ?_) (a' := ?_) #[true, true, true, true, true, true, true, true, false, false, false, false, false, false, false, false, false, false, false, false, false, false] rfl rfl (any_of HT_.out (by kernel_rfl)) (fun _ _ _ h => h) (Or.inl ⟨by rfl, ?_⟩) ?_ ?_
                                        rotate_left
                                        · intro w'
                                          go_simp
                                          with_reducible rfl
                                        rotate_left
                                        · simp only [Act.put, List.setIfInBounds_toArray, List.set_cons_zero, List.set_cons_succ, i64_w, i32_w]
                                          rfl
                                        refine pure_ (i := 8) (N := some 88) (v := ?_) (a' := ?_) #[true, true, true, true, true, true, true, true, true, false, false, false, false, false, false, false, false, false, false, false, false, false] rfl rfl (any_of HT_.out (by kernel_rfl)) (fun _ _ _ h => h) (Or.inl ⟨by rfl, ?_⟩) ?_ ?_
                                        rotate_left
                                        · intro w'
                                          go_simp
                                          with_reducible rfl
                                        rotate_left
                                        · simp only [Act.put, List.setIfInBounds_toArray, List.set_cons_zero, List.set_cons_succ, i64_w, i32_w]
                                          rfl
                                        refine pure_ (i := 9) (N := some 89) (v := undef) (a' := ?_) #[true, true, true, true, true, true, true, true, true, true, false, false, false, false, false, false, false, false, false, false, false, false] rfl rfl (any_of HT_.out (by kernel_rfl)) (fun _ _ _ h => h) (Or.inr ⟨by rfl, rfl⟩) ?_ ?_
                                        rotate_left
                                        · simp only [Act.put, List.setIfInBounds_toArray, List.set_cons_zero, List.set_cons_succ, i64_w, i32_w]
                                          rfl
                                        refine pure_ (i := 10) (N := some 90) (v := undef) (a' := ?_) #[true, true, true, true, true, true, true, true, true, true, true, false, false, false, false, false, false, false, false, false, false, false] rfl rfl (any_of HT_.out (by kernel_rfl)) (fun _ _ _ h => h) (Or.inr ⟨by rfl, rfl⟩) ?_ ?_
                                        rotate_left
                                        · simp only [Act.put, List.setIfInBounds_toArray, List.set_cons_zero, List.set_cons_succ, i64_w, i32_w]
                                          rfl
                                        refine pure_ (i := 11) (N := some 91) (v := undef) (a' := ?_) #[true, true, true, true, true, true, true, true, true, true, true, true, false, false, false, false, false, false, false, false, false, false] rfl rfl (any_of HT_.out (by kernel_rfl)) (fun _ _ _ h => h) (Or.inr ⟨by rfl, rfl⟩) ?_ ?_
                                        rotate_left
                                        · simp only [Act.put, List.setIfInBounds_toArray, List.set_cons_zero, List.set_cons_succ, i64_w, i32_w]
                                          rfl
                                        refine pure_ (i := 12) (N := some 92) (v := undef) (a' := ?_) #[true, true, true, true, true, true, true, true, true, true, true, true, true, false, false, false, false, false, false, false, false, false] rfl rfl (any_of HT_.out (by kernel_rfl)) (fun _ _ _ h => h) (Or.inr ⟨by rfl, rfl⟩) ?_ ?_
                                        rotate_left
                                        · simp only [Act.put, List.setIfInBounds_toArray, List.set_cons_zero, List.set_cons_succ, i64_w, i32_w]
                                          rfl
                                        refine pure_ (i := 13) (N := some 93) (v := undef) (a' := ?_) #[true, true, true, true, true, true, true, true, true, true, true, true, true, true, false, false, false, false, false, false, false, false] rfl rfl (any_of HT_.out (by kernel_rfl)) (fun _ _ _ h => h) (Or.inr ⟨by rfl, rfl⟩) ?_ ?_
                                        rotate_left
                                        · simp only [Act.put, List.setIfInBounds_toArray, List.set_cons_zero, List.set_cons_succ, i64_w, i32_w]
                                          rfl
                                        refine pure_ (i := 14) (N := some 94) (v := undef) (a' := ?_) #[true, true, true, true, true, true, true, true, true, true, true, true, true, true, true, false, false, false, false, false, false, false] rfl rfl (any_of HT_.out (by kernel_rfl)) (fun _ _ _ h => h) (Or.inr ⟨by rfl, rfl⟩) ?_ ?_
                                        rotate_left
                                        · simp only [Act.put, List.setIfInBounds_toArray, List.set_cons_zero, List.set_cons_succ, i64_w, i32_w]
                                          rfl
                                        refine pure_ (i := 15) (N := some 95) (v := undef) (a' := ?_) #[true, true, true, true, true, true, true, true, true, true, true, true, true, true, true, true, false, false, false, false, false, false] rfl rfl (any_of HT_.out (by kernel_rfl)) (fun _ _ _ h => h) (Or.inr ⟨by rfl, rfl⟩) ?_ ?_
                                        rotate_left
                                        · simp only [Act.put, List.setIfInBounds_toArray, List.set_cons_zero, List.set_cons_succ, i64_w, i32_w]
                                          rfl
                                        refine pure_ (i := 16) (N := some 96) (v := undef) (a' := ?_) #[true, true, true, true, true, true, true, true, true, true, true, true, true, true, true, true, true, false, false, false, false, false] rfl rfl (any_of HT_.out (by kernel_rfl)) (fun _ _ _ h => h) (Or.inr ⟨by rfl, rfl⟩) ?_ ?_
                                        rotate_left
                                        · simp only [Act.put, List.setIfInBounds_toArray, List.set_cons_zero, List.set_cons_succ, i64_w, i32_w]
                                          rfl
                                        refine pure_ (i := 17) (N := some 97) (v := undef) (a' := ?_) #[true, true, true, true, true, true, true, true, true, true, true, true, true, true, true, true, true, true, false, false, false, false] rfl rfl (any_of HT_.out (by kernel_rfl)) (fun _ _ _ h => h) (Or.inr ⟨by rfl, rfl⟩) ?_ ?_
                                        rotate_left
                                        · simp only [Act.put, List.setIfInBounds_toArray, List.set_cons_zero, List.set_cons_succ, i64_w, i32_w]
                                          rfl
                                        refine pure_ (i := 18) (N := some 98) (v := undef) (a' := ?_) #[true, true, true, true, true, true, true, true, true, true, true, true, true, true, true, true, true, true, true, false, false, false] rfl rfl (any_of HT_.out (by kernel_rfl)) (fun _ _ _ h => h) (Or.inr ⟨by rfl, rfl⟩) ?_ ?_
                                        rotate_left
                                        · simp only [Act.put, List.setIfInBounds_toArray, List.set_cons_zero, List.set_cons_succ, i64_w, i32_w]
                                          rfl
                                        refine pure_ (i := 19) (N := some 99) (v := undef) (a' := ?_) #[true, true, true, true, true, true, true, true, true, true, true, true, true, true, true, true, true, true, true, true, false, false] rfl rfl (any_of HT_.out (by kernel_rfl)) (fun _ _ _ h => h) (Or.inr ⟨by rfl, rfl⟩) ?_ ?_
                                        rotate_left
                                        · simp only [Act.put, List.setIfInBounds_toArray, List.set_cons_zero, List.set_cons_succ, i64_w, i32_w]
                                          rfl
                                        refine pure_ (i := 20) (N := some 100) (v := undef) (a' := ?_) #[true, true, true, true, true, true, true, true, true, true, true, true, true, true, true, true, true, true, true, true, true, false] rfl rfl (any_of HT_.out (by kernel_rfl)) (fun _ _ _ h => h) (Or.inr ⟨by rfl, rfl⟩) ?_ ?_
                                        rotate_left
                                        · simp only [Act.put, List.setIfInBounds_toArray, List.set_cons_zero, List.set_cons_succ, i64_w, i32_w]
                                          rfl
                                        refine pure_ (i := 21) (N := some 101) (v := ?_) (a' := ?_) #[true, true, true, true, true, true, true, true, true, true, true, true, true, true, true, true, true, true, true, true, true, true] rfl rfl (any_of HT_.out (by kernel_rfl)) (fun _ _ _ h => h) (Or.inl ⟨by rfl, ?_⟩) ?_ ?_
                                        rotate_left
                                        · intro w'
                                          go_simp
                                          with_reducible rfl
                                        rotate_left
                                        · simp only [Act.put, List.setIfInBounds_toArray, List.set_cons_zero, List.set_cons_succ, i64_w, i32_w]
                                          rfl
                                        refine done_ (done_of HT_.out (by kernel_rfl)) ?_
                                        try go_wp2
                                        go_meet
                                        case rel => exact ⟨_, (true), (by first | rfl | (simp; done) | (simp [*]; done)), H', ⟨by have := HJ13.out; have := HK2.out; have := HJ39.out; first | omega | exact Nat.le_refl _⟩, ⟨by (with_reducible repeat (first | apply Kd.N_alloc | apply Kd.N_drewN | apply Kd.N_drew)); exact HO_0.out⟩, ⟨by (with_reducible repeat (first | apply Kd.N_alloc | apply Kd.N_drewN | apply Kd.N_drew)); exact HO_10.out⟩, ⟨by (with_reducible repeat (first | apply Kd.N_alloc | apply Kd.N_drewN | apply Kd.N_drew)); exact HO_11.out⟩, ⟨by repeat (first | (with_reducible first | exact HB.out | apply below_alloc | apply pw_below_drewN | apply below_drew1) | exact HB.out)⟩⟩
                                      · rw [if_neg c56] at H
                                        have c56b0 : decide ((y384.length : Int) ≤ t392) = false := decide_eq_false c56
                                        clear c56
                                        by_cases c58 : 0 ≤ t392
                                        · rw [if_pos c58] at H
                                          have c58b0 : decide (0 ≤ t392) = true := decide_eq_true c58
                                          clear c58
                                          by_cases c59 : t392 < (y384.length : Int)
                                          · rw [if_pos c59] at H
                                            have c59b0 : decide (t392 < (y384.length : Int)) = true := decide_eq_true c59
                                            clear c59
                                            replace H := Option.bind_eq_some_iff.mp H
                                            obtain ⟨t394, A600, H⟩ := H
                                            replace H : (if 0 ≤ t363 then (if t363 < (t360.length : Int) then ((phaetonref06_Rank.f kj39 ((rd_T35 t360 t363).f0) ((rd_T35 t360 t363).f1) ((rd_T35 t360 t363).f2) ((rd_T35 t360 t363).f3) ((rd_T35 t360 t363).f4)).bind fun t398 => ((phaetonref03_Ints.f kj39 t394 t398).bind fun t401 => (phaetonlaw06_ArbOrder.j3 kj39 t360 t359 x10_2 y384 (!t401)))) else (none)) else (none)) = some r := H
                                            have A60 := Aside0.mk A600
                                            clear A600
                                            by_cases c61 : 0 ≤ t363
                                            · rw [if_pos c61] at H
                                              have c61b0 : decide (0 ≤ t363) = true := decide_eq_true c61
                                              clear c61
                                              by_cases c62 : t363 < (t360.length : Int)
                                              · rw [if_pos c62] at H
                                                have c62b0 : decide (t363 < (t360.length : Int)) = true := decide_eq_true c62
                                                clear c62
                                                replace H := Option.bind_eq_some_iff.mp H
                                                obtain ⟨t398, A630, H⟩ := H
                                                replace H : ((phaetonref03_Ints.f kj39 t394 t398).bind fun t401 => (phaetonlaw06_ArbOrder.j3 kj39 t360 t359 x10_2 y384 (!t401))) = some r := H
                                                have A63 := Aside0.mk A630
                                                clear A630
                                                replace H := Option.bind_eq_some_iff.mp H
                                                obtain ⟨t401, A640, H⟩ := H
                                                replace H : (phaetonlaw06_ArbOrder.j3 kj39 t360 t359 x10_2 y384 (!t401)) = some r := H
                                                have A64 := Aside0.mk A640
                                                clear A640
                                                have H' := Aside0.mk H
                                                clear H
                                                try go_wp2
                                                have n0_ := Aside0.mk (Kd.N_drew HO_0.out)
                                                have n1_ := Aside0.mk (Kd.N_drew HO_10.out)
                                                have n2_ := Aside0.mk (Kd.N_drew HO_11.out)
                                                have n3_ := Aside0.mk (below_drew1 HB.out)
                                                clear HO_0
                                                clear HO_10
                                                clear HO_11
                                                clear HB
                                                have HO_0 := n0_
                                                have HO_10 := n1_
                                                have HO_11 := n2_
                                                have HB := n3_
                                                clear n0_ n1_ n2_ n3_
                                                have p393 : 0 ≤ (t392 : Int) := of_decide_eq_true (by first | (with_reducible assumption) | assumption)
                                                have q393 : t392 < (y384.length : Int) := of_decide_eq_true (by first | (with_reducible assumption) | assumption)
                                                obtain ⟨ad393, A393_4, c393_4, e393, hx393_0, hx393_1, hx393_2, hx393_3, hx393_4, hl393_4, hi393_4⟩ := at_T35 (Kd.N_reads' HO_11.out).2.2 t392 p393 q393
                                                cases e393
                                                obtain ⟨ce393, hce393, hMe393, hcc393⟩ := Kd.N_get HO_11.out z35 t392 p393 (by first | exact q393 | exact of_decide_eq_true (by first | (with_reducible assumption) | assumption) | (have e_ := (Kd.N_reads' HO_11.out).1; omega))
                                                obtain ⟨ua393_4, uc393_4, rfl, ul393_4, ge393_4⟩ := k35_openF hMe393
                                                have hv393_4 := hcc393 4 _ rfl
                                                rw [add_field _ _ 4 (by omega)] at hv393_4
                                                replace hv393_4 := Option.some.inj (hv393_4.symm.trans hx393_4)
                                                injection hv393_4 with hva_ hvn_ hvc_
                                                rw [hva_] at ge393_4
                                                rw [hvc_] at ul393_4
                                                have HL393_4 := Aside0.mk (show Kd.V (Kd.int .u8) 5 _ w.heap.size _ _ ((rd_T35 y384 t392).f4) from Kd.V_mk ul393_4 ge393_4)
                                                clear hva_ hvn_ hvc_ ge393_4 ul393_4
                                                clear hcc393 hce393
                                                have HR393_4 := Aside0.mk hi393_4
                                                have HC393_4 := Aside0.mk hl393_4
                                                clear hi393_4 hl393_4
                                                replace p393 := eq_true p393
                                                replace q393 := eq_true q393
                                                have p397 : 0 ≤ (t363 : Int) := of_decide_eq_true (by first | (with_reducible assumption) | assumption)
                                                have q397 : t363 < (t360.length : Int) := of_decide_eq_true (by first | (with_reducible assumption) | assumption)
                                                obtain ⟨ad397, A397_4, c397_4, e397, hx397_0, hx397_1, hx397_2, hx397_3, hx397_4, hl397_4, hi397_4⟩ := at_T35 (Kd.N_reads' HO_0.out).2.2 t363 p397 q397
                                                obtain rfl : ad364 = ad397 := (by injection e397)
                                                obtain ⟨ce397, hce397, hMe397, hcc397⟩ := Kd.N_get HO_0.out z35 t363 p397 (by first | exact q397 | exact of_decide_eq_true (by first | (with_reducible assumption) | assumption) | (have e_ := (Kd.N_reads' HO_0.out).1; omega))
                                                obtain ⟨ua397_4, uc397_4, rfl, ul397_4, ge397_4⟩ := k35_openF hMe397
                                                have hv397_4 := hcc397 4 _ rfl
                                                rw [add_field _ _ 4 (by omega)] at hv397_4
                                                replace hv397_4 := Option.some.inj (hv397_4.symm.trans hx397_4)
                                                injection hv397_4 with hva_ hvn_ hvc_
                                                rw [hva_] at ge397_4
                                                rw [hvc_] at ul397_4
                                                have HL397_4 := Aside0.mk (show Kd.V (Kd.int .u8) 5 _ w.heap.size _ _ ((rd_T35 t360 t363).f4) from Kd.V_mk ul397_4 ge397_4)
                                                clear hva_ hvn_ hvc_ ge397_4 ul397_4
                                                clear hcc397 hce397
                                                have HR397_4 := Aside0.mk hi397_4
                                                have HC397_4 := Aside0.mk hl397_4
                                                clear hi397_4 hl397_4
                                                replace p397 := eq_true p397
                                                replace q397 := eq_true q397
                                                refine start_ (n := 22) (S := fun w' => w'.cell? (ad393.add ((t392).toNat * 5)) = some (.bool ((rd_T35 y384 t392).f0)) ∧ w'.cell? ⟨(ad393.add ((t392).toNat * 5)).block, (ad393.add ((t392).toNat * 5)).off + 1, none⟩ = some (.int .i64 ((rd_T35 y384 t392).f1)) ∧ w'.cell? ⟨(ad393.add ((t392).toNat * 5)).block, (ad393.add ((t392).toNat * 5)).off + 2, none⟩ = some (.bool ((rd_T35 y384 t392).f2)) ∧ w'.cell? ⟨(ad393.add ((t392).toNat * 5)).block, (ad393.add ((t392).toNat * 5)).off + 3, none⟩ = some (.int .i64 ((rd_T35 y384 t392).f3)) ∧ w'.cell? ⟨(ad393.add ((t392).toNat * 5)).block, (ad393.add ((t392).toNat * 5)).off + 4, none⟩ = some (.slice A393_4 ((rd_T35 y384 t392).f4).length c393_4) ∧ w'.cell? (ad364.add ((t363).toNat * 5)) = some (.bool ((rd_T35 t360 t363).f0)) ∧ w'.cell? ⟨(ad364.add ((t363).toNat * 5)).block, (ad364.add ((t363).toNat * 5)).off + 1, none⟩ = some (.int .i64 ((rd_T35 t360 t363).f1)) ∧ w'.cell? ⟨(ad364.add ((t363).toNat * 5)).block, (ad364.add ((t363).toNat * 5)).off + 2, none⟩ = some (.bool ((rd_T35 t360 t363).f2)) ∧ w'.cell? ⟨(ad364.add ((t363).toNat * 5)).block, (ad364.add ((t363).toNat * 5)).off + 3, none⟩ = some (.int .i64 ((rd_T35 t360 t363).f3)) ∧ w'.cell? ⟨(ad364.add ((t363).toNat * 5)).block, (ad364.add ((t363).toNat * 5)).off + 4, none⟩ = some (.slice A397_4 ((rd_T35 t360 t363).f4).length c397_4)) (ds := []) #[false, false, false, false, false, false, false, false, false, false, false, false, false, false, false, false, false, false, false, false, false, false] (by kernel_rfl) rfl rfl ⟨hx393_0, hx393_1, hx393_2, hx393_3, hx393_4, hx397_0, hx397_1, hx397_2, hx397_3, hx397_4⟩ (fun hHeld => ?_); refine with_tabW phaetonlaw06_ArbOrder.tab17 phaetonlaw06_ArbOrder.bits17 (fun HT_ HW_ => ?_)
                                                generalize w53.drew = w65 at HO_0 HO_10 HO_11 HB HL393_4 HL397_4 HR393_4 HR397_4 hx393_0 hx393_1 hx393_2 hx393_3 hx393_4 hx397_0 hx397_1 hx397_2 hx397_3 hx397_4 hHeld ⊢
                                                refine pure_ (i := 0) (N := some 80) (v := ?_) (a' := ?_) #[true, false, false, false, false, false, false, false, false, false, false, false, false, false, false, false, false, false, false, false, false, false] rfl rfl (any_of HT_.out (by kernel_rfl)) (fun _ _ _ h => h) (Or.inl ⟨by rfl, ?_⟩) ?_ ?_
                                                rotate_left
                                                · intro w'
                                                  go_simp
                                                  with_reducible rfl
                                                rotate_left
                                                · simp only [Act.put, List.setIfInBounds_toArray, List.set_cons_zero, List.set_cons_succ, i64_w, i32_w]
                                                  rfl
                                                refine pure_ (i := 1) (N := some 81) (v := ?_) (a' := ?_) #[true, true, false, false, false, false, false, false, false, false, false, false, false, false, false, false, false, false, false, false, false, false] rfl rfl (any_of HT_.out (by kernel_rfl)) (fun _ _ _ h => h) (Or.inl ⟨by rfl, ?_⟩) ?_ ?_
                                                rotate_left
                                                · intro w'
                                                  go_simp
                                                  with_reducible rfl
                                                rotate_left
                                                · simp only [Act.put, List.setIfInBounds_toArray, List.set_cons_zero, List.set_cons_succ, i64_w, i32_w]
                                                  rfl
                                                refine pure_ (i := 2) (N := some 82) (v := ?_) (a' := ?_) #[true, true, true, false, false, false, false, false, false, false, false, false, false, false, false, false, false, false, false, false, false, false] rfl rfl (any_of HT_.out (by kernel_rfl)) (fun _ _ _ h => h) (Or.inl ⟨by rfl, ?_⟩) ?_ ?_
                                                rotate_left
                                                · intro w'
                                                  go_simp
                                                  with_reducible rfl
                                                rotate_left
                                                · simp only [Act.put, List.setIfInBounds_toArray, List.set_cons_zero, List.set_cons_succ, i64_w, i32_w]
                                                  rfl
                                                refine pure_ (i := 3) (N := some 83) (v := ?_) (a' := ?_) #[true, true, true, true, false, false, false, false, false, false, false, false, false, false, false, false, false, false, false, false, false, false] rfl rfl (any_of HT_.out (by kernel_rfl)) (fun _ _ _ h => h) (Or.inl ⟨by rfl, ?_⟩) ?_ ?_
                                                rotate_left
                                                · intro w'
                                                  go_simp
                                                  with_reducible rfl
                                                rotate_left
                                                · simp only [Act.put, List.setIfInBounds_toArray, List.set_cons_zero, List.set_cons_succ, i64_w, i32_w]
                                                  rfl
                                                refine pure_ (i := 4) (N := some 84) (v := ?_) (a' := ?_) #[true, true, true, true, true, false, false, false, false, false, false, false, false, false, false, false, false, false, false, false, false, false] rfl rfl (any_of HT_.out (by kernel_rfl)) (fun _ _ _ h => h) (Or.inl ⟨by rfl, ?_⟩) ?_ ?_
                                                rotate_left
                                                · intro w'
                                                  go_simp
                                                  with_reducible rfl
                                                rotate_left
                                                · simp only [Act.put, List.setIfInBounds_toArray, List.set_cons_zero, List.set_cons_succ, i64_w, i32_w]
                                                  rfl
                                                refine pure_ (i := 5) (N := some 85) (v := ?_) (a' := ?_) #[true, true, true, true, true, true, false, false, false, false, false, false, false, false, false, false, false, false, false, false, false, false] rfl rfl (any_of HT_.out (by kernel_rfl)) (fun _ _ _ h => h) (Or.inl ⟨by rfl, ?_⟩) ?_ ?_
                                                rotate_left
                                                · intro w'
                                                  go_simp
                                                  with_reducible rfl
                                                rotate_left
                                                · simp only [Act.put, List.setIfInBounds_toArray, List.set_cons_zero, List.set_cons_succ, i64_w, i32_w]
                                                  rfl
                                                refine pure_ (i := 6) (N := some 86) (v := ?_) (a' := ?_) #[true, true, true, true, true, true, true, false, false, false, false, false, false, false, false, false, false, false, false, false, false, false] rfl rfl (any_of HT_.out (by kernel_rfl)) (fun _ _ _ h => h) (Or.inl ⟨by rfl, ?_⟩) ?_ ?_
                                                rotate_left
                                                · intro w'
                                                  go_simp
                                                  with_reducible rfl
                                                rotate_left
                                                · simp only [Act.put, List.setIfInBounds_toArray, List.set_cons_zero, List.set_cons_succ, i64_w, i32_w]
                                                  rfl
                                                refine pure_ (i := 7) (N := some 87) (v := ?_) (a' := ?_) #[true, true, true, true, true, true, true, true, false, false, false, false, false, false, false, false, false, false, false, false, false, false] rfl rfl (any_of HT_.out (by kernel_rfl)) (fun _ _ _ h => h) (Or.inl ⟨by rfl, ?_⟩) ?_ ?_
                                                rotate_left
                                                · intro w'
                                                  go_simp
                                                  with_reducible rfl
                                                rotate_left
                                                · simp only [Act.put, List.setIfInBounds_toArray, List.set_cons_zero, List.set_cons_succ, i64_w, i32_w]
                                                  rfl
                                                refine pure_ (i := 8) (N := some 88) (v := ?_) (a' := ?_) #[true, true, true, true, true, true, true, true, true, false, false, false, false, false, false, false, false, false, false, false, false, false] rfl rfl (any_of HT_.out (by kernel_rfl)) (fun _ _ _ h => h) (Or.inl ⟨by rfl, ?_⟩) ?_ ?_
                                                rotate_left
                                                · intro w'
                                                  go_simp
                                                  with_reducible rfl
                                                rotate_left
                                                · simp only [Act.put, List.setIfInBounds_toArray, List.set_cons_zero, List.set_cons_succ, i64_w, i32_w]
                                                  rfl
                                                refine pure_ (i := 9) (N := some 89) (v := ?_) (a' := ?_) #[true, true, true, true, true, true, true, true, true, true, false, false, false, false, false, false, false, false, false, false, false, false] rfl rfl (any_of HT_.out (by kernel_rfl)) (fun _ _ _ h => h) (Or.inl ⟨by rfl, ?_⟩) ?_ ?_
                                                rotate_left
                                                · intro w'
                                                  go_simp
                                                  with_reducible rfl
                                                rotate_left
                                                · simp only [Act.put, List.setIfInBounds_toArray, List.set_cons_zero, List.set_cons_succ, i64_w, i32_w]
                                                  rfl
                                                refine pure_ (i := 10) (N := some 90) (v := ?_) (a' := ?_) #[true, true, true, true, true, true, true, true, true, true, true, false, false, false, false, false, false, false, false, false, false, false] rfl rfl (any_of HT_.out (by kernel_rfl)) (fun _ _ _ h => h) (Or.inl ⟨by rfl, ?_⟩) ?_ ?_
                                                rotate_left
                                                · intro w'
                                                  go_simp
                                                  with_reducible rfl
                                                rotate_left
                                                · simp only [Act.put, List.setIfInBounds_toArray, List.set_cons_zero, List.set_cons_succ, i64_w, i32_w]
                                                  rfl
                                                refine pure_ (i := 11) (N := some 91) (v := ?_) (a' := ?_) #[true, true, true, true, true, true, true, true, true, true, true, true, false, false, false, false, false, false, false, false, false, false] rfl rfl (any_of HT_.out (by kernel_rfl)) (fun _ _ _ h => h) (Or.inl ⟨by rfl, ?_⟩) ?_ ?_
                                                rotate_left
                                                · intro w'
                                                  go_simp
                                                  with_reducible rfl
                                                rotate_left
                                                · simp only [Act.put, List.setIfInBounds_toArray, List.set_cons_zero, List.set_cons_succ, i64_w, i32_w]
                                                  rfl
                                                refine pure_ (i := 14) (N := some 94) (v := ?_) (a' := ?_) #[true, true, true, true, true, true, true, true, true, true, true, true, false, false, true, false, false, false, false, false, false, false] rfl rfl (any_of HT_.out (by kernel_rfl)) (fun _ _ _ h => h) (Or.inl ⟨by rfl, ?_⟩) ?_ ?_
                                                rotate_left
                                                · intro w'
                                                  go_simp
                                                  with_reducible rfl
                                                rotate_left
                                                · simp only [Act.put, List.setIfInBounds_toArray, List.set_cons_zero, List.set_cons_succ, i64_w, i32_w]
                                                  rfl
                                                refine pure_ (i := 15) (N := some 95) (v := ?_) (a' := ?_) #[true, true, true, true, true, true, true, true, true, true, true, true, false, false, true, true, false, false, false, false, false, false] rfl rfl (any_of HT_.out (by kernel_rfl)) (fun _ _ _ h => h) (Or.inl ⟨by rfl, ?_⟩) ?_ ?_
                                                rotate_left
                                                · intro w'
                                                  go_simp
                                                  with_reducible rfl
                                                rotate_left
                                                · simp only [Act.put, List.setIfInBounds_toArray, List.set_cons_zero, List.set_cons_succ, i64_w, i32_w]
                                                  rfl
                                                refine pure_ (i := 16) (N := some 96) (v := ?_) (a' := ?_) #[true, true, true, true, true, true, true, true, true, true, true, true, false, false, true, true, true, false, false, false, false, false] rfl rfl (any_of HT_.out (by kernel_rfl)) (fun _ _ _ h => h) (Or.inl ⟨by rfl, ?_⟩) ?_ ?_
                                                rotate_left
                                                · intro w'
                                                  go_simp
                                                  with_reducible rfl
                                                rotate_left
                                                · simp only [Act.put, List.setIfInBounds_toArray, List.set_cons_zero, List.set_cons_succ, i64_w, i32_w]
                                                  rfl
                                                refine take_ (i := 12) (N := some 92) (v := ?_) (a' := ?_) #[true, true, true, true, true, true, true, true, true, true, true, true, true, false, true, true, true, false, false, false, false, false] rfl rfl (take_ofW HT_.out HW_.out (by kernel_rfl)) (fun _ _ _ h => h) (Or.inl ⟨by rfl, ?_⟩) hHeld ?_ ?_
                                                rotate_left
                                                · rintro w' ⟨s0, s1, s2, s3, s4, s5, s6, s7, s8, s9⟩
                                                  go_simp
                                                  with_reducible rfl
                                                rotate_left
                                                · simp only [Act.put, List.setIfInBounds_toArray, List.set_cons_zero, List.set_cons_succ, i64_w, i32_w]
                                                  rfl
                                                refine take_ (i := 17) (N := some 97) (v := ?_) (a' := ?_) #[true, true, true, true, true, true, true, true, true, true, true, true, true, false, true, true, true, true, false, false, false, false] rfl rfl (take_ofW HT_.out HW_.out (by kernel_rfl)) (fun _ _ _ h => h) (Or.inl ⟨by rfl, ?_⟩) hHeld ?_ ?_
                                                rotate_left
                                                · rintro w' ⟨s0, s1, s2, s3, s4, s5, s6, s7, s8, s9⟩
                                                  go_simp
                                                  with_reducible rfl
                                                rotate_left
                                                · simp only [Act.put, List.setIfInBounds_toArray, List.set_cons_zero, List.set_cons_succ, i64_w, i32_w]
                                                  rfl
                                                refine one_ (i := 13) (N := some 93) #[true, true, true, true, true, true, true, true, true, true, true, true, true, true, true, true, true, true, false, false, false, false] rfl rfl (one_of HT_.out (by kernel_rfl)) (by decide) (fun K hK => ?_)
                                                refine goes_ Try.func24 (by kernel_rfl) rfl #[.agg #[.bool ((rd_T35 y384 t392).f0), .int .i64 ((rd_T35 y384 t392).f1), .bool ((rd_T35 y384 t392).f2), .int .i64 ((rd_T35 y384 t392).f3), .slice A393_4 ((rd_T35 y384 t392).f4).length c393_4]] (by rfl) rfl rfl (by (try simp only [List.map_toArray, List.map_cons, List.map_nil]); first | done | rfl | (simp only [List.length_drop, List.length_take]; rfl)) ?_
                                                with_reducible refine (phaetonref06_Rank.calls kj39 ((rd_T35 y384 t392).f0) ((rd_T35 y384 t392).f1) ((rd_T35 y384 t392).f2) ((rd_T35 y384 t392).f3) _ _ ((rd_T35 y384 t392).f4) t394 _ ?side1 ?side2 A60.out).mono ?_
                                                (case side1 => repeat (first | exact (by repeat (first | (with_reducible exact HR393_4.out) | (with_reducible refine Kd.C_alloc ?_ _) | (with_reducible refine Kd.C_drewN ?_ _) | (with_reducible refine Kd.C_drew ?_) | exact HR393_4.out)) | (with_reducible refine Kd.C_alloc ?_ _) | (with_reducible refine Kd.C_drewN ?_ _) | (with_reducible refine Kd.C_drew ?_)))
                                                (case side2 => exact HC393_4.out)
                                                rintro e w66 ⟨v395, rfl, ho0, hb⟩
                                                have HS0_ := (hb.cell (World.block_lt_of_cell? _ _ (hHeld.1))).trans (hHeld.1)
                                                have HS1_ := (hb.cell (World.block_lt_of_cell? _ _ (hHeld.2.1))).trans (hHeld.2.1)
                                                have HS2_ := (hb.cell (World.block_lt_of_cell? _ _ (hHeld.2.2.1))).trans (hHeld.2.2.1)
                                                have HS3_ := (hb.cell (World.block_lt_of_cell? _ _ (hHeld.2.2.2.1))).trans (hHeld.2.2.2.1)
                                                have HS4_ := (hb.cell (World.block_lt_of_cell? _ _ (hHeld.2.2.2.2.1))).trans (hHeld.2.2.2.2.1)
                                                have HS5_ := (hb.cell (World.block_lt_of_cell? _ _ (hHeld.2.2.2.2.2.1))).trans (hHeld.2.2.2.2.2.1)
                                                have HS6_ := (hb.cell (World.block_lt_of_cell? _ _ (hHeld.2.2.2.2.2.2.1))).trans (hHeld.2.2.2.2.2.2.1)
                                                have HS7_ := (hb.cell (World.block_lt_of_cell? _ _ (hHeld.2.2.2.2.2.2.2.1))).trans (hHeld.2.2.2.2.2.2.2.1)
                                                have HS8_ := (hb.cell (World.block_lt_of_cell? _ _ (hHeld.2.2.2.2.2.2.2.2.1))).trans (hHeld.2.2.2.2.2.2.2.2.1)
                                                have HS9_ := (hb.cell (World.block_lt_of_cell? _ _ (hHeld.2.2.2.2.2.2.2.2.2))).trans (hHeld.2.2.2.2.2.2.2.2.2)
                                                refine ⟨_, rfl, ?_⟩
                                                have n0_ := Aside0.mk (Kd.N_elder' (by (with_reducible repeat (first | apply Kd.N_alloc | apply Kd.N_drewN | apply Kd.N_drew)); exact HO_0.out) (Kd.R_base ho0) hb)
                                                have n1_ := Aside0.mk (Kd.N_elder' (by (with_reducible repeat (first | apply Kd.N_alloc | apply Kd.N_drewN | apply Kd.N_drew)); exact HO_10.out) (Kd.R_base ho0) hb)
                                                have n2_ := Aside0.mk (Kd.N_elder' (by (with_reducible repeat (first | apply Kd.N_alloc | apply Kd.N_drewN | apply Kd.N_drew)); exact HO_11.out) (Kd.R_base ho0) hb)
                                                have n3_ := Aside0.mk (Kd.V_elder' (by (with_reducible repeat (first | apply Kd.V_alloc | apply Kd.V_drewN | apply Kd.V_drew)); exact HL393_4.out) (Kd.R_base ho0) hb)
                                                have n4_ := Aside0.mk (Kd.V_elder' (by (with_reducible repeat (first | apply Kd.V_alloc | apply Kd.V_drewN | apply Kd.V_drew)); exact HL397_4.out) (Kd.R_base ho0) hb)
                                                have n5_ := Aside0.mk (Kd.R_lower ho0 (below_size (by repeat (first | (with_reducible first | exact HB.out | apply below_alloc | apply pw_below_drewN | apply below_drew1) | exact HB.out))))
                                                have n6_ := Aside0.mk (Kd.C_below (by repeat (first | (with_reducible exact HR393_4.out) | (with_reducible refine Kd.C_alloc ?_ _) | (with_reducible refine Kd.C_drewN ?_ _) | (with_reducible refine Kd.C_drew ?_) | exact HR393_4.out)) hb)
                                                have n7_ := Aside0.mk (Kd.C_below (by repeat (first | (with_reducible exact HR397_4.out) | (with_reducible refine Kd.C_alloc ?_ _) | (with_reducible refine Kd.C_drewN ?_ _) | (with_reducible refine Kd.C_drew ?_) | exact HR397_4.out)) hb)
                                                have n8_ := Aside0.mk (below_step (by repeat (first | (with_reducible first | exact HB.out | apply below_alloc | apply pw_below_drewN | apply below_drew1) | exact HB.out)) hb)
                                                clear HO_0
                                                clear HO_10
                                                clear HO_11
                                                clear HL393_4
                                                clear HL397_4
                                                clear HR393_4
                                                clear HR397_4
                                                clear HB
                                                have HO_0 := n0_
                                                have HO_10 := n1_
                                                have HO_11 := n2_
                                                have HL393_4 := n3_
                                                have HL397_4 := n4_
                                                have HO396 := n5_
                                                have HR393_4 := n6_
                                                have HR397_4 := n7_
                                                have HB := n8_
                                                clear n0_ n1_ n2_ n3_ n4_ n5_ n6_ n7_ n8_
                                                (try clear hb)
                                                (try clear hb2)
                                                (try clear hk)
                                                (try clear hi)
                                                (try clear ho0)
                                                refine hK.out _ _ ⟨HS0_, HS1_, HS2_, HS3_, HS4_, HS5_, HS6_, HS7_, HS8_, HS9_⟩ (fun hHeld => ?_)
                                                clear hK K
                                                refine norm_ (a' := ?_) ?_ ?_
                                                rotate_left
                                                · show Act.put _ (some 93) _ = _
                                                  simp only [Act.put, List.setIfInBounds_toArray, List.set_cons_zero, List.set_cons_succ, i64_w, i32_w]
                                                  rfl
                                                refine one_ (i := 18) (N := some 98) #[true, true, true, true, true, true, true, true, true, true, true, true, true, true, true, true, true, true, true, false, false, false] rfl rfl (one_of HT_.out (by kernel_rfl)) (by decide) (fun K hK => ?_)
                                                refine goes_ Try.func24 (by kernel_rfl) rfl #[.agg #[.bool ((rd_T35 t360 t363).f0), .int .i64 ((rd_T35 t360 t363).f1), .bool ((rd_T35 t360 t363).f2), .int .i64 ((rd_T35 t360 t363).f3), .slice A397_4 ((rd_T35 t360 t363).f4).length c397_4]] (by rfl) rfl rfl (by (try simp only [List.map_toArray, List.map_cons, List.map_nil]); first | done | rfl | (simp only [List.length_drop, List.length_take]; rfl)) ?_
                                                with_reducible refine (phaetonref06_Rank.calls kj39 ((rd_T35 t360 t363).f0) ((rd_T35 t360 t363).f1) ((rd_T35 t360 t363).f2) ((rd_T35 t360 t363).f3) _ _ ((rd_T35 t360 t363).f4) t398 _ ?side1 ?side2 A63.out).mono ?_
                                                (case side1 => repeat (first | exact (by repeat (first | (with_reducible exact HR397_4.out) | (with_reducible refine Kd.C_alloc ?_ _) | (with_reducible refine Kd.C_drewN ?_ _) | (with_reducible refine Kd.C_drew ?_) | exact HR397_4.out)) | (with_reducible refine Kd.C_alloc ?_ _) | (with_reducible refine Kd.C_drewN ?_ _) | (with_reducible refine Kd.C_drew ?_)))
                                                (case side2 => exact HC397_4.out)
                                                rintro e w67 ⟨v399, rfl, ho0, hb⟩
                                                have HS0_ := (hb.cell (World.block_lt_of_cell? _ _ (hHeld.1))).trans (hHeld.1)
                                                have HS1_ := (hb.cell (World.block_lt_of_cell? _ _ (hHeld.2.1))).trans (hHeld.2.1)
                                                have HS2_ := (hb.cell (World.block_lt_of_cell? _ _ (hHeld.2.2.1))).trans (hHeld.2.2.1)
                                                have HS3_ := (hb.cell (World.block_lt_of_cell? _ _ (hHeld.2.2.2.1))).trans (hHeld.2.2.2.1)
                                                have HS4_ := (hb.cell (World.block_lt_of_cell? _ _ (hHeld.2.2.2.2.1))).trans (hHeld.2.2.2.2.1)
                                                have HS5_ := (hb.cell (World.block_lt_of_cell? _ _ (hHeld.2.2.2.2.2.1))).trans (hHeld.2.2.2.2.2.1)
                                                have HS6_ := (hb.cell (World.block_lt_of_cell? _ _ (hHeld.2.2.2.2.2.2.1))).trans (hHeld.2.2.2.2.2.2.1)
                                                have HS7_ := (hb.cell (World.block_lt_of_cell? _ _ (hHeld.2.2.2.2.2.2.2.1))).trans (hHeld.2.2.2.2.2.2.2.1)
                                                have HS8_ := (hb.cell (World.block_lt_of_cell? _ _ (hHeld.2.2.2.2.2.2.2.2.1))).trans (hHeld.2.2.2.2.2.2.2.2.1)
                                                have HS9_ := (hb.cell (World.block_lt_of_cell? _ _ (hHeld.2.2.2.2.2.2.2.2.2))).trans (hHeld.2.2.2.2.2.2.2.2.2)
                                                refine ⟨_, rfl, ?_⟩
                                                have n0_ := Aside0.mk (Kd.N_elder' (by (with_reducible repeat (first | apply Kd.N_alloc | apply Kd.N_drewN | apply Kd.N_drew)); exact HO_0.out) (Kd.R_base ho0) hb)
                                                have n1_ := Aside0.mk (Kd.N_elder' (by (with_reducible repeat (first | apply Kd.N_alloc | apply Kd.N_drewN | apply Kd.N_drew)); exact HO_10.out) (Kd.R_base ho0) hb)
                                                have n2_ := Aside0.mk (Kd.N_elder' (by (with_reducible repeat (first | apply Kd.N_alloc | apply Kd.N_drewN | apply Kd.N_drew)); exact HO_11.out) (Kd.R_base ho0) hb)
                                                have n3_ := Aside0.mk (Kd.V_elder' (by (with_reducible repeat (first | apply Kd.V_alloc | apply Kd.V_drewN | apply Kd.V_drew)); exact HL393_4.out) (Kd.R_base ho0) hb)
                                                have n4_ := Aside0.mk (Kd.V_elder' (by (with_reducible repeat (first | apply Kd.V_alloc | apply Kd.V_drewN | apply Kd.V_drew)); exact HL397_4.out) (Kd.R_base ho0) hb)
                                                have n5_ := Aside0.mk (Kd.R_elder' (by (with_reducible repeat (first | apply Kd.R_alloc | apply Kd.R_drewN | apply Kd.R_drew)); exact HO396.out) (Kd.R_base ho0) hb)
                                                have n6_ := Aside0.mk (Kd.R_lower (Kd.R_new' ho0 (Kd.R_lt (by (with_reducible repeat (first | apply Kd.R_alloc | apply Kd.R_drewN | apply Kd.R_drew)); exact HO396.out))) (below_size (by repeat (first | (with_reducible first | exact HB.out | apply below_alloc | apply pw_below_drewN | apply below_drew1) | exact HB.out))))
                                                have n7_ := Aside0.mk (Kd.C_below (by repeat (first | (with_reducible exact HR393_4.out) | (with_reducible refine Kd.C_alloc ?_ _) | (with_reducible refine Kd.C_drewN ?_ _) | (with_reducible refine Kd.C_drew ?_) | exact HR393_4.out)) hb)
                                                have n8_ := Aside0.mk (Kd.C_below (by repeat (first | (with_reducible exact HR397_4.out) | (with_reducible refine Kd.C_alloc ?_ _) | (with_reducible refine Kd.C_drewN ?_ _) | (with_reducible refine Kd.C_drew ?_) | exact HR397_4.out)) hb)
                                                have n9_ := Aside0.mk (below_step (by repeat (first | (with_reducible first | exact HB.out | apply below_alloc | apply pw_below_drewN | apply below_drew1) | exact HB.out)) hb)
                                                clear HO_0
                                                clear HO_10
                                                clear HO_11
                                                clear HL393_4
                                                clear HL397_4
                                                clear HO396
                                                clear HR393_4
                                                clear HR397_4
                                                clear HB
                                                have HO_0 := n0_
                                                have HO_10 := n1_
                                                have HO_11 := n2_
                                                have HL393_4 := n3_
                                                have HL397_4 := n4_
                                                have HO396 := n5_
                                                have HO400 := n6_
                                                have HR393_4 := n7_
                                                have HR397_4 := n8_
                                                have HB := n9_
                                                clear n0_ n1_ n2_ n3_ n4_ n5_ n6_ n7_ n8_ n9_
                                                (try clear hb)
                                                (try clear hb2)
                                                (try clear hk)
                                                (try clear hi)
                                                (try clear ho0)
                                                obtain ⟨Ao68, co68, eo68⟩ := Kd.R_slice HO396.out
                                                (first | subst eo68 | (injection eo68 with f1_ f2_ f3_; have f4_ := f1_.symm; have f5_ := f3_.symm; clear f1_ f2_ f3_; subst f4_; subst f5_))
                                                obtain ⟨Ao69, co69, eo69⟩ := Kd.R_slice HO400.out
                                                (first | subst eo69 | (injection eo69 with f1_ f2_ f3_; have f4_ := f1_.symm; have f5_ := f3_.symm; clear f1_ f2_ f3_; subst f4_; subst f5_))
                                                refine hK.out _ _ ⟨HS0_, HS1_, HS2_, HS3_, HS4_, HS5_, HS6_, HS7_, HS8_, HS9_⟩ (fun hHeld => ?_)
                                                clear hK K
                                                refine norm_ (a' := ?_) ?_ ?_
                                                rotate_left
                                                · show Act.put _ (some 98) _ = _
                                                  simp only [Act.put, List.setIfInBounds_toArray, List.set_cons_zero, List.set_cons_succ, i64_w, i32_w]
                                                  rfl
                                                refine one_ (i := 19) (N := some 99) #[true, true, true, true, true, true, true, true, true, true, true, true, true, true, true, true, true, true, true, true, false, false] rfl rfl (one_of HT_.out (by kernel_rfl)) (by decide) (fun K hK => ?_)
                                                refine goes_ Try.func16 (by kernel_rfl) rfl #[.slice Ao68 t394.length co68, .slice Ao69 t398.length co69] (by rfl) rfl rfl (by (try simp only [List.map_toArray, List.map_cons, List.map_nil]); first | done | rfl | (simp only [List.length_drop, List.length_take]; rfl)) ?_
                                                with_reducible refine (phaetonref03_Ints.calls kj39 _ _ t394 _ _ t398 t401 _ ?side1 ?side2 ?side3 ?side4 A64.out).mono ?_
                                                (case side1 => repeat (first | exact (Kd.R_reads' HO396.out).2.2 | (with_reducible refine Kd.C_alloc ?_ _) | (with_reducible refine Kd.C_drewN ?_ _) | (with_reducible refine Kd.C_drew ?_)))
                                                (case side2 => exact (Kd.R_reads' HO396.out).2.1)
                                                (case side3 => repeat (first | exact (Kd.R_reads' HO400.out).2.2 | (with_reducible refine Kd.C_alloc ?_ _) | (with_reducible refine Kd.C_drewN ?_ _) | (with_reducible refine Kd.C_drew ?_)))
                                                (case side4 => exact (Kd.R_reads' HO400.out).2.1)
                                                rintro e w' ⟨rfl, ⟨nd, rfl⟩⟩
                                                refine ⟨_, rfl, ?_⟩
                                                refine hK.out _ _ ⟨hHeld.1, hHeld.2.1, hHeld.2.2.1, hHeld.2.2.2.1, hHeld.2.2.2.2.1, hHeld.2.2.2.2.2.1, hHeld.2.2.2.2.2.2.1, hHeld.2.2.2.2.2.2.2.1, hHeld.2.2.2.2.2.2.2.2.1, hHeld.2.2.2.2.2.2.2.2.2⟩ (fun hHeld => ?_)
                                                clear hK K
                                                refine norm_ (a' := ?_) ?_ ?_
                                                rotate_left
                                                · show Act.put _ (some 99) _ = _
                                                  simp only [Act.put, List.setIfInBounds_toArray, List.set_cons_zero, List.set_cons_succ, i64_w, i32_w]
                                                  rfl
                                                refine pure_ (i := 20) (N := some 100) (v := ?_) (a' := ?_) #[true, true, true, true, true, true, true, true, true, true, true, true, true, true, true, true, true, true, true, true, true, false] rfl rfl (any_of HT_.out (by kernel_rfl)) (fun _ _ _ h => h) (Or.inl ⟨by rfl, ?_⟩) ?_ ?_
                                                rotate_left
                                                · intro w'
                                                  go_simp
                                                  with_reducible rfl
                                                rotate_left
                                                · simp only [Act.put, List.setIfInBounds_toArray, List.set_cons_zero, List.set_cons_succ, i64_w, i32_w]
                                                  rfl
                                                refine pure_ (i := 21) (N := some 101) (v := ?_) (a' := ?_) #[true, true, true, true, true, true, true, true, true, true, true, true, true, true, true, true, true, true, true, true, true, true] rfl rfl (any_of HT_.out (by kernel_rfl)) (fun _ _ _ h => h) (Or.inl ⟨by rfl, ?_⟩) ?_ ?_
                                                rotate_left
                                                · intro w'
                                                  go_simp
                                                  with_reducible rfl
                                                rotate_left
                                                · simp only [Act.put, List.setIfInBounds_toArray, List.set_cons_zero, List.set_cons_succ, i64_w, i32_w]
                                                  rfl
                                                refine done_ (done_of HT_.out (by kernel_rfl)) ?_
                                                try go_wp2
                                                go_meet
                                                case rel => exact ⟨_, (!t401), (by first | rfl | (simp; done) | (simp [*]; done)), H', ⟨by have := HJ13.out; have := HK2.out; have := HJ39.out; first | omega | exact Nat.le_refl _⟩, ⟨by (with_reducible repeat (first | apply Kd.N_alloc | apply Kd.N_drewN | apply Kd.N_drew)); exact Kd.N_mono HO_0.out (fun _ hk => ⟨hk.1.1.1, hk.1.1.2⟩)⟩, ⟨by (with_reducible repeat (first | apply Kd.N_alloc | apply Kd.N_drewN | apply Kd.N_drew)); exact Kd.N_mono HO_10.out (fun _ hk => ⟨hk.1.1.1, hk.1.1.2⟩)⟩, ⟨by (with_reducible repeat (first | apply Kd.N_alloc | apply Kd.N_drewN | apply Kd.N_drew)); exact Kd.N_mono HO_11.out (fun _ hk => hk.1.1)⟩, ⟨by repeat (first | (with_reducible first | exact HB.out | apply below_alloc | apply pw_below_drewN | apply below_drew1) | exact HB.out)⟩⟩
                                              · rw [if_neg c62] at H
                                                exact absurd H (by simp)
                                            · rw [if_neg c61] at H
                                              exact absurd H (by simp)
                                          · exfalso; (try simp only [decide_eq_true_eq, decide_eq_false_iff_not, beq_iff_eq, beq_eq_false_iff_ne, ne_eq] at c56b0); omega
                                        · rw [if_neg c58] at H
                                          exact absurd H (by simp)
                                  case rest =>
                                    clear HC51
                                    try clear c1
                                    try clear c2
                                    try clear p2
                                    try clear c3
                                    try clear p3
                                    try clear q3
                                    try clear hx3
                                    try clear c5
                                    try clear c6
                                    try clear c16
                                    try clear c24
                                    try clear c39
                                    try clear p39
                                    try clear q39
                                    try clear hx39
                                    try clear c54
                                    try clear c54b0
                                    try clear c56
                                    try clear c56b0
                                    try clear c58
                                    try clear c58b0
                                    try clear c59
                                    try clear c59b0
                                    try clear c61
                                    try clear c61b0
                                    try clear c62
                                    try clear c62b0
                                    try clear hx393_0
                                    try clear hx393_1
                                    try clear hx393_2
                                    try clear hx393_3
                                    try clear hx393_4
                                    try clear hx397_0
                                    try clear hx397_1
                                    try clear hx397_2
                                    try clear hx397_3
                                    try clear hx397_4
                                    try clear p393
                                    try clear p397
                                    try clear q393
                                    try clear q397
                                    obtain ⟨kq, x101_50, rfl, HA, HJ50, HO_0, HO_10, HO_11, HB⟩ := hcut
                                    cases kq with
                                    | zero => exact absurd HA.out (by simp [phaetonlaw06_ArbOrder.j3])
                                    | succ kj50 =>
                                      have H := HA.out
                                      clear HA
                                      simp only [phaetonlaw06_ArbOrder.j3] at H
                                      by_cases c70 : x101_50 = true
                                      · subst c70
                                        have H1 : (none) = some r := by rw [if_pos rfl] at H; exact H
                                        clear H
                                        have H := H1
                                        clear H1
                                        exact absurd H (by simp)
                                      · replace c70 := Bool.eq_false_iff.mpr c70
                                        subst c70
                                        have H1 : ((arb_Win.f x10_2).bind fun t402 => (if t402 = 0 then ((arb_Line.f y384).bind fun t403 => ((arb_Line.f t360).bind fun t406 => ((phaetonref03_Ints.f kj50 t403 t406).bind fun t409 => (if t409 = true then ((arb_Line.f x10_2).bind fun t410 => ((arb_Line.f t360).bind fun t413 => ((phaetonref03_Ints.f kj50 t410 t413).bind fun t416 => (if t416 = true then (if t359 = true then (some true) else (none)) else (none))))) else (none))))) else (none))) = some r := by rw [if_neg (show ¬ (false = true) by decide)] at H; exact H
                                        clear H
                                        have H := H1
                                        clear H1
                                        replace H := Option.bind_eq_some_iff.mp H
                                        obtain ⟨t402, A710, H⟩ := H
                                        replace H : (if t402 = 0 then ((arb_Line.f y384).bind fun t403 => ((arb_Line.f t360).bind fun t406 => ((phaetonref03_Ints.f kj50 t403 t406).bind fun t409 => (if t409 = true then ((arb_Line.f x10_2).bind fun t410 => ((arb_Line.f t360).bind fun t413 => ((phaetonref03_Ints.f kj50 t410 t413).bind fun t416 => (if t416 = true then (if t359 = true then (some true) else (none)) else (none))))) else (none))))) else (none)) = some r := H
                                        have A71 := Aside0.mk A710
                                        clear A710
                                        by_cases c72 : t402 = 0
                                        · rw [if_pos c72] at H
                                          have c72b0 : (t402 == 0) = true := beq_iff_eq.mpr c72
                                          have c72b1 : (t402 != 0) = false := bne_eq_false_iff_eq.mpr c72
                                          clear c72
                                          replace H := Option.bind_eq_some_iff.mp H
                                          obtain ⟨t403, A730, H⟩ := H
                                          replace H : ((arb_Line.f t360).bind fun t406 => ((phaetonref03_Ints.f kj50 t403 t406).bind fun t409 => (if t409 = true then ((arb_Line.f x10_2).bind fun t410 => ((arb_Line.f t360).bind fun t413 => ((phaetonref03_Ints.f kj50 t410 t413).bind fun t416 => (if t416 = true then (if t359 = true then (some true) else (none)) else (none))))) else (none)))) = some r := H
                                          have A73 := Aside0.mk A730
                                          clear A730
                                          replace H := Option.bind_eq_some_iff.mp H
                                          obtain ⟨t406, A740, H⟩ := H
                                          replace H : ((phaetonref03_Ints.f kj50 t403 t406).bind fun t409 => (if t409 = true then ((arb_Line.f x10_2).bind fun t410 => ((arb_Line.f t360).bind fun t413 => ((phaetonref03_Ints.f kj50 t410 t413).bind fun t416 => (if t416 = true then (if t359 = true then (some true) else (none)) else (none))))) else (none))) = some r := H
                                          have A74 := Aside0.mk A740
                                          clear A740
                                          replace H := Option.bind_eq_some_iff.mp H
                                          obtain ⟨t409, A750, H⟩ := H
                                          replace H : (if t409 = true then ((arb_Line.f x10_2).bind fun t410 => ((arb_Line.f t360).bind fun t413 => ((phaetonref03_Ints.f kj50 t410 t413).bind fun t416 => (if t416 = true then (if t359 = true then (some true) else (none)) else (none))))) else (none)) = some r := H
                                          have A75 := Aside0.mk A750
                                          clear A750
                                          by_cases c76 : t409 = true
                                          · subst c76
                                            have H1 : ((arb_Line.f x10_2).bind fun t410 => ((arb_Line.f t360).bind fun t413 => ((phaetonref03_Ints.f kj50 t410 t413).bind fun t416 => (if t416 = true then (if t359 = true then (some true) else (none)) else (none))))) = some r := by rw [if_pos rfl] at H; exact H
                                            clear H
                                            have H := H1
                                            clear H1
                                            replace H := Option.bind_eq_some_iff.mp H
                                            obtain ⟨t410, A770, H⟩ := H
                                            replace H : ((arb_Line.f t360).bind fun t413 => ((phaetonref03_Ints.f kj50 t410 t413).bind fun t416 => (if t416 = true then (if t359 = true then (some true) else (none)) else (none)))) = some r := H
                                            have A77 := Aside0.mk A770
                                            clear A770
                                            replace H := Option.bind_eq_some_iff.mp H
                                            obtain ⟨t413, A780, H⟩ := H
                                            replace H : ((phaetonref03_Ints.f kj50 t410 t413).bind fun t416 => (if t416 = true then (if t359 = true then (some true) else (none)) else (none))) = some r := H
                                            have A78 := Aside0.mk A780
                                            clear A780
                                            replace H := Option.bind_eq_some_iff.mp H
                                            obtain ⟨t416, A790, H⟩ := H
                                            replace H : (if t416 = true then (if t359 = true then (some true) else (none)) else (none)) = some r := H
                                            have A79 := Aside0.mk A790
                                            clear A790
                                            by_cases c80 : t416 = true
                                            · subst c80
                                              have H1 : (if t359 = true then (some true) else (none)) = some r := by rw [if_pos rfl] at H; exact H
                                              clear H
                                              have H := H1
                                              clear H1
                                              by_cases c81 : t359 = true
                                              · subst c81
                                                have H1 : (some true) = some r := by rw [if_pos rfl] at H; exact H
                                                clear H
                                                have H := H1
                                                clear H1
                                                obtain rfl := Option.some.inj H
                                                obtain ⟨Ao82, co82, eo82⟩ := Kd.N_slice HO_10.out
                                                subst eo82
                                                go_wp2_with (first | ((with_reducible refine gate_callee (f := 14) rfl ?_); refine goesL_ (some 103) rfl rfl Try.func14 (by kernel_rfl) rfl #[.slice Ao82 x10_2.length co82] rfl (by (try simp only [List.map_toArray, List.map_cons, List.map_nil]); first | done | rfl | (simp only [List.length_drop, List.length_take]; rfl)) ?_; (with_reducible refine (arb_Win.calls _ _ x10_2 t402 _ ?side1 ?side2 A71.out).mono ?_); (case side1 => repeat (first | exact (Kd.N_reads' HO_10.out).2.2 | (with_reducible refine Kd.C_alloc ?_ _) | (with_reducible refine Kd.C_drewN ?_ _) | (with_reducible refine Kd.C_drew ?_))); (case side2 => exact (Kd.N_reads' HO_10.out).2.1); rintro e w83 ⟨rfl, hb⟩; refine ⟨_, rfl, ?_⟩; have n0_ := Aside0.mk (Kd.N_below (by (with_reducible repeat (first | apply Kd.N_alloc | apply Kd.N_drewN | apply Kd.N_drew)); exact HO_0.out) hb); have n1_ := Aside0.mk (Kd.N_below (by (with_reducible repeat (first | apply Kd.N_alloc | apply Kd.N_drewN | apply Kd.N_drew)); exact HO_10.out) hb); have n2_ := Aside0.mk (Kd.N_below (by (with_reducible repeat (first | apply Kd.N_alloc | apply Kd.N_drewN | apply Kd.N_drew)); exact HO_11.out) hb); have n3_ := Aside0.mk (below_step (by repeat (first | (with_reducible first | exact HB.out | apply below_alloc | apply pw_below_drewN | apply below_drew1) | exact HB.out)) hb); clear HO_0; clear HO_10; clear HO_11; clear HB; have HO_0 := n0_; have HO_10 := n1_; have HO_11 := n2_; have HB := n3_; clear n0_ n1_ n2_ n3_; (try clear hb); (try clear hb2); (try clear hk); (try clear hi)) | (go_at_call 19; (with_reducible refine (arb_Line.calls _ _ y384 t403 _ ?side1 ?side2 A73.out).mono ?_); (case side1 => repeat (first | exact (Kd.N_reads' HO_11.out).2.2 | (with_reducible refine Kd.C_alloc ?_ _) | (with_reducible refine Kd.C_drewN ?_ _) | (with_reducible refine Kd.C_drew ?_))); (case side2 => exact (Kd.N_reads' HO_11.out).2.1); rintro e w84 ⟨v404, rfl, ho0, hb⟩; have n0_ := Aside0.mk (Kd.N_elder' (by (with_reducible repeat (first | apply Kd.N_alloc | apply Kd.N_drewN | apply Kd.N_drew)); exact HO_0.out) (Kd.R_base ho0) hb); have n1_ := Aside0.mk (Kd.N_elder' (by (with_reducible repeat (first | apply Kd.N_alloc | apply Kd.N_drewN | apply Kd.N_drew)); exact HO_10.out) (Kd.R_base ho0) hb); have n2_ := Aside0.mk (Kd.N_elder' (by (with_reducible repeat (first | apply Kd.N_alloc | apply Kd.N_drewN | apply Kd.N_drew)); exact HO_11.out) (Kd.R_base ho0) hb); have n3_ := Aside0.mk (Kd.R_lower ho0 (below_size (by repeat (first | (with_reducible first | exact HB.out | apply below_alloc | apply pw_below_drewN | apply below_drew1) | exact HB.out)))); have n4_ := Aside0.mk (below_step (by repeat (first | (with_reducible first | exact HB.out | apply below_alloc | apply pw_below_drewN | apply below_drew1) | exact HB.out)) hb); clear HO_0; clear HO_10; clear HO_11; clear HB; have HO_0 := n0_; have HO_10 := n1_; have HO_11 := n2_; have HO405 := n3_; have HB := n4_; clear n0_ n1_ n2_ n3_ n4_; (try clear hb); (try clear hb2); (try clear hk); (try clear hi); (try clear ho0)) | (go_at_call 19; (with_reducible refine (arb_Line.calls _ _ t360 t406 _ ?side1 ?side2 A74.out).mono ?_); (case side1 => repeat (first | exact (Kd.N_reads' HO_0.out).2.2 | (with_reducible refine Kd.C_alloc ?_ _) | (with_reducible refine Kd.C_drewN ?_ _) | (with_reducible refine Kd.C_drew ?_))); (case side2 => exact (Kd.N_reads' HO_0.out).2.1); rintro e w85 ⟨v407, rfl, ho0, hb⟩; have n0_ := Aside0.mk (Kd.N_elder' (by (with_reducible repeat (first | apply Kd.N_alloc | apply Kd.N_drewN | apply Kd.N_drew)); exact HO_0.out) (Kd.R_base ho0) hb); have n1_ := Aside0.mk (Kd.N_elder' (by (with_reducible repeat (first | apply Kd.N_alloc | apply Kd.N_drewN | apply Kd.N_drew)); exact HO_10.out) (Kd.R_base ho0) hb); have n2_ := Aside0.mk (Kd.N_elder' (by (with_reducible repeat (first | apply Kd.N_alloc | apply Kd.N_drewN | apply Kd.N_drew)); exact HO_11.out) (Kd.R_base ho0) hb); have n3_ := Aside0.mk (Kd.R_elder' (by (with_reducible repeat (first | apply Kd.R_alloc | apply Kd.R_drewN | apply Kd.R_drew)); exact HO405.out) (Kd.R_base ho0) hb); have n4_ := Aside0.mk (Kd.R_lower (Kd.R_new' ho0 (Kd.R_lt (by (with_reducible repeat (first | apply Kd.R_alloc | apply Kd.R_drewN | apply Kd.R_drew)); exact HO405.out))) (below_size (by repeat (first | (with_reducible first | exact HB.out | apply below_alloc | apply pw_below_drewN | apply below_drew1) | exact HB.out)))); have n5_ := Aside0.mk (below_step (by repeat (first | (with_reducible first | exact HB.out | apply below_alloc | apply pw_below_drewN | apply below_drew1) | exact HB.out)) hb); clear HO_0; clear HO_10; clear HO_11; clear HO405; clear HB; have HO_0 := n0_; have HO_10 := n1_; have HO_11 := n2_; have HO405 := n3_; have HO408 := n4_; have HB := n5_; clear n0_ n1_ n2_ n3_ n4_ n5_; (try clear hb); (try clear hb2); (try clear hk); (try clear hi); (try clear ho0); obtain ⟨Ao86, co86, eo86⟩ := Kd.R_slice HO405.out; subst eo86; obtain ⟨Ao87, co87, eo87⟩ := Kd.R_slice HO408.out; subst eo87) | (go_at_call 16; (with_reducible refine (phaetonref03_Ints.calls kj50 _ _ t403 _ _ t406 true _ ?side1 ?side2 ?side3 ?side4 A75.out).mono ?_); (case side1 => repeat (first | exact (Kd.R_reads' HO405.out).2.2 | (with_reducible refine Kd.C_alloc ?_ _) | (with_reducible refine Kd.C_drewN ?_ _) | (with_reducible refine Kd.C_drew ?_))); (case side2 => exact (Kd.R_reads' HO405.out).2.1); (case side3 => repeat (first | exact (Kd.R_reads' HO408.out).2.2 | (with_reducible refine Kd.C_alloc ?_ _) | (with_reducible refine Kd.C_drewN ?_ _) | (with_reducible refine Kd.C_drew ?_))); (case side4 => exact (Kd.R_reads' HO408.out).2.1); rintro e w' ⟨rfl, ⟨nd, rfl⟩⟩) | (go_at_call 19; (with_reducible refine (arb_Line.calls _ _ x10_2 t410 _ ?side1 ?side2 A77.out).mono ?_); (case side1 => repeat (first | exact (Kd.N_reads' HO_10.out).2.2 | (with_reducible refine Kd.C_alloc ?_ _) | (with_reducible refine Kd.C_drewN ?_ _) | (with_reducible refine Kd.C_drew ?_))); (case side2 => exact (Kd.N_reads' HO_10.out).2.1); rintro e w88 ⟨v411, rfl, ho0, hb⟩; have n0_ := Aside0.mk (Kd.N_elder' (by (with_reducible repeat (first | apply Kd.N_alloc | apply Kd.N_drewN | apply Kd.N_drew)); exact HO_0.out) (Kd.R_base ho0) hb); have n1_ := Aside0.mk (Kd.N_elder' (by (with_reducible repeat (first | apply Kd.N_alloc | apply Kd.N_drewN | apply Kd.N_drew)); exact HO_10.out) (Kd.R_base ho0) hb); have n2_ := Aside0.mk (Kd.N_elder' (by (with_reducible repeat (first | apply Kd.N_alloc | apply Kd.N_drewN | apply Kd.N_drew)); exact HO_11.out) (Kd.R_base ho0) hb); have n3_ := Aside0.mk (Kd.R_elder' (by (with_reducible repeat (first | apply Kd.R_alloc | apply Kd.R_drewN | apply Kd.R_drew)); exact HO405.out) (Kd.R_base ho0) hb); have n4_ := Aside0.mk (Kd.R_elder' (by (with_reducible repeat (first | apply Kd.R_alloc | apply Kd.R_drewN | apply Kd.R_drew)); exact HO408.out) (Kd.R_base ho0) hb); have n5_ := Aside0.mk (Kd.R_lower (Kd.R_new' (Kd.R_new' ho0 (Kd.R_lt (by (with_reducible repeat (first | apply Kd.R_alloc | apply Kd.R_drewN | apply Kd.R_drew)); exact HO405.out))) (Kd.R_lt (by (with_reducible repeat (first | apply Kd.R_alloc | apply Kd.R_drewN | apply Kd.R_drew)); exact HO408.out))) (below_size (by repeat (first | (with_reducible first | exact HB.out | apply below_alloc | apply pw_below_drewN | apply below_drew1) | exact HB.out)))); have n6_ := Aside0.mk (below_step (by repeat (first | (with_reducible first | exact HB.out | apply below_alloc | apply pw_below_drewN | apply below_drew1) | exact HB.out)) hb); clear HO_0; clear HO_10; clear HO_11; clear HO405; clear HO408; clear HB; have HO_0 := n0_; have HO_10 := n1_; have HO_11 := n2_; have HO405 := n3_; have HO408 := n4_; have HO412 := n5_; have HB := n6_; clear n0_ n1_ n2_ n3_ n4_ n5_ n6_; (try clear hb); (try clear hb2); (try clear hk); (try clear hi); (try clear ho0)) | (go_at_call 19; (with_reducible refine (arb_Line.calls _ _ t360 t413 _ ?side1 ?side2 A78.out).mono ?_); (case side1 => repeat (first | exact (Kd.N_reads' HO_0.out).2.2 | (with_reducible refine Kd.C_alloc ?_ _) | (with_reducible refine Kd.C_drewN ?_ _) | (with_reducible refine Kd.C_drew ?_))); (case side2 => exact (Kd.N_reads' HO_0.out).2.1); rintro e w89 ⟨v414, rfl, ho0, hb⟩; have n0_ := Aside0.mk (Kd.N_elder' (by (with_reducible repeat (first | apply Kd.N_alloc | apply Kd.N_drewN | apply Kd.N_drew)); exact HO_0.out) (Kd.R_base ho0) hb); have n1_ := Aside0.mk (Kd.N_elder' (by (with_reducible repeat (first | apply Kd.N_alloc | apply Kd.N_drewN | apply Kd.N_drew)); exact HO_10.out) (Kd.R_base ho0) hb); have n2_ := Aside0.mk (Kd.N_elder' (by (with_reducible repeat (first | apply Kd.N_alloc | apply Kd.N_drewN | apply Kd.N_drew)); exact HO_11.out) (Kd.R_base ho0) hb); have n3_ := Aside0.mk (Kd.R_elder' (by (with_reducible repeat (first | apply Kd.R_alloc | apply Kd.R_drewN | apply Kd.R_drew)); exact HO405.out) (Kd.R_base ho0) hb); have n4_ := Aside0.mk (Kd.R_elder' (by (with_reducible repeat (first | apply Kd.R_alloc | apply Kd.R_drewN | apply Kd.R_drew)); exact HO408.out) (Kd.R_base ho0) hb); have n5_ := Aside0.mk (Kd.R_elder' (by (with_reducible repeat (first | apply Kd.R_alloc | apply Kd.R_drewN | apply Kd.R_drew)); exact HO412.out) (Kd.R_base ho0) hb); have n6_ := Aside0.mk (Kd.R_lower (Kd.R_new' (Kd.R_new' (Kd.R_new' ho0 (Kd.R_lt (by (with_reducible repeat (first | apply Kd.R_alloc | apply Kd.R_drewN | apply Kd.R_drew)); exact HO405.out))) (Kd.R_lt (by (with_reducible repeat (first | apply Kd.R_alloc | apply Kd.R_drewN | apply Kd.R_drew)); exact HO408.out))) (Kd.R_lt (by (with_reducible repeat (first | apply Kd.R_alloc | apply Kd.R_drewN | apply Kd.R_drew)); exact HO412.out))) (below_size (by repeat (first | (with_reducible first | exact HB.out | apply below_alloc | apply pw_below_drewN | apply below_drew1) | exact HB.out)))); have n7_ := Aside0.mk (below_step (by repeat (first | (with_reducible first | exact HB.out | apply below_alloc | apply pw_below_drewN | apply below_drew1) | exact HB.out)) hb); clear HO_0; clear HO_10; clear HO_11; clear HO405; clear HO408; clear HO412; clear HB; have HO_0 := n0_; have HO_10 := n1_; have HO_11 := n2_; have HO405 := n3_; have HO408 := n4_; have HO412 := n5_; have HO415 := n6_; have HB := n7_; clear n0_ n1_ n2_ n3_ n4_ n5_ n6_ n7_; (try clear hb); (try clear hb2); (try clear hk); (try clear hi); (try clear ho0); obtain ⟨Ao90, co90, eo90⟩ := Kd.R_slice HO412.out; subst eo90; obtain ⟨Ao91, co91, eo91⟩ := Kd.R_slice HO415.out; subst eo91) | (go_at_call 16; (with_reducible refine (phaetonref03_Ints.calls kj50 _ _ t410 _ _ t413 true _ ?side1 ?side2 ?side3 ?side4 A79.out).mono ?_); (case side1 => repeat (first | exact (Kd.R_reads' HO412.out).2.2 | (with_reducible refine Kd.C_alloc ?_ _) | (with_reducible refine Kd.C_drewN ?_ _) | (with_reducible refine Kd.C_drew ?_))); (case side2 => exact (Kd.R_reads' HO412.out).2.1); (case side3 => repeat (first | exact (Kd.R_reads' HO415.out).2.2 | (with_reducible refine Kd.C_alloc ?_ _) | (with_reducible refine Kd.C_drewN ?_ _) | (with_reducible refine Kd.C_drew ?_))); (case side4 => exact (Kd.R_reads' HO415.out).2.1); rintro e w' ⟨rfl, ⟨nd, rfl⟩⟩))
                                                go_ret
                                                exact ⟨by first | rfl | (simp [errW_none, errW_some] <;> rfl) | (simp only [← hji24]; first | rfl | (simp [errW_none, errW_some] <;> rfl)) | (simp [*, errW_none, errW_some] <;> rfl), by repeat (first | (with_reducible first | exact HB.out | apply below_alloc | apply pw_below_drewN | apply below_drew1) | exact HB.out)⟩
                                              · replace c81 := Bool.eq_false_iff.mpr c81
                                                subst c81
                                                have H1 : (none) = some r := by rw [if_neg (show ¬ (false = true) by decide)] at H; exact H
                                                clear H
                                                have H := H1
                                                clear H1
                                                exact absurd H (by simp)
                                            · replace c80 := Bool.eq_false_iff.mpr c80
                                              subst c80
                                              have H1 : (none) = some r := by rw [if_neg (show ¬ (false = true) by decide)] at H; exact H
                                              clear H
                                              have H := H1
                                              clear H1
                                              exact absurd H (by simp)
                                          · replace c76 := Bool.eq_false_iff.mpr c76
                                            subst c76
                                            have H1 : (none) = some r := by rw [if_neg (show ¬ (false = true) by decide)] at H; exact H
                                            clear H
                                            have H := H1
                                            clear H1
                                            exact absurd H (by simp)
                                        · rw [if_neg c72] at H
                                          exact absurd H (by simp)
                      · rw [if_neg c30] at H
                        exact absurd H (by simp)
                    · rw [if_neg c27] at H
                      exact absurd H (by simp)
                  · rw [if_neg c26] at H
                    exact absurd H (by simp)
                · rw [if_neg c25] at H
                  exact absurd H (by simp)
              · rw [if_neg c23] at H
                exact absurd H (by simp)
            · rw [if_neg c22] at H
              exact absurd H (by simp)

/-- THE ONE PURE STATEMENT of phaetonlaw06_ArbOrder. -/
def phaetonlaw06_ArbOrder.Pure : Prop := ∀ (l0 : List (S35)) (a1 : Int) (l2 : List Bool), l0.length ≤ maxLen → (∀ x ∈ l0, (fun (x : S35) => (fun (_ : Bool) => True) x.f0 ∧ ((fun (x : Int) => (Lit.int .i64 x).wf = true) x.f1 ∧ ((fun (_ : Bool) => True) x.f2 ∧ ((fun (x : Int) => (Lit.int .i64 x).wf = true) x.f3 ∧ ((fun (l : List Int) => ∀ x ∈ l, (fun (x : Int) => (Lit.int .u8 x).wf = true) x) x.f4))))) x) → (Lit.int .u8 a1).wf = true → l2.length ≤ maxLen → (∀ x ∈ l2, (fun (_ : Bool) => True) x) → ∃ k, phaetonlaw06_ArbOrder.f k l0 a1 l2 = some true
theorem phaetonlaw06_ArbOrder.walk (P : phaetonlaw06_ArbOrder.Pure) (A0 : Option Addr) (c0 : Nat) (l0 : List (S35)) (a1 : Int) (A2 : Option Addr) (c2 : Nat) (l2 : List Bool) (w : World) (hw0 : ∀ x ∈ l0, (fun (x : S35) => (fun (_ : Bool) => True) x.f0 ∧ ((fun (x : Int) => (Lit.int .i64 x).wf = true) x.f1 ∧ ((fun (_ : Bool) => True) x.f2 ∧ ((fun (x : Int) => (Lit.int .i64 x).wf = true) x.f3 ∧ ((fun (l : List Int) => ∀ x ∈ l, (fun (x : Int) => (Lit.int .u8 x).wf = true) x) x.f4))))) x) (hr0 : Kd.C k35 w A0 l0.length l0) (hc0 : l0.length ≤ c0) (hw1 : (Lit.int .u8 a1).wf = true) (hw2 : ∀ x ∈ l2, (fun (_ : Bool) => True) x) (hr2 : Kd.C Kd.bool w A2 l2.length l2) (hc2 : l2.length ≤ c2) :
    Calls Try.prog 6 #[.slice A0 l0.length c0, .int .u8 a1, .slice A2 l2.length c2] w fun e w' => e = .returned (.bool true) ∧ Below w.heap.size w w' := by
  obtain ⟨k, h⟩ := P l0 a1 l2 (by have := hr0.2.1; unfold maxLen; omega) hw0 hw1 (by have := hr2.2.1; unfold maxLen; omega) hw2
  refine (phaetonlaw06_ArbOrder.calls k _ _ l0 a1 _ _ l2 true w hr0 hc0 hr2 hc2 h).mono ?_
  rintro e w' ⟨rfl, hd⟩
  exact ⟨rfl, hd⟩

end Go.Proofs.Ytcdbndjicjghgaa.Px

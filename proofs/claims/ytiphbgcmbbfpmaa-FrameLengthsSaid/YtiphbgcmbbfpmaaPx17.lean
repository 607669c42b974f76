-- Written by myprint.py, a program of this session's, over the kit's print.py; not a text of print.sh's own.
import Derived.Test.YtiphbgcmbbfpmaaPx0
import Derived.Test.YtiphbgcmbbfpmaaPx1
import Derived.Test.YtiphbgcmbbfpmaaPx2
import Derived.Test.YtiphbgcmbbfpmaaPx6
import Derived.Test.YtiphbgcmbbfpmaaPx7
namespace Go.Proofs.Ytiphbgcmbbfpmaa.Px
open Go.RowKit Go.Proofs.YtiphbgcmbbfpmaaW.PrintWords Go.Proofs.YtiphbgcmbbfpmaaW.PrintLast Go.Proofs.YtiphbgcmbbfpmaaW.PrintMore
attribute [local go_sem] max2_int min2_int max_two min_two max_three min_three max_four min_four   -- for this text's walks alone
set_option linter.unusedVariables false
set_option linter.unusedSimpArgs false

/-! ### phaetonlaw04_FrameLengths: function 8 -/
mutual
def phaetonlaw04_FrameLengths.j0 : Nat → Int → Bool → Bool → Bool → Int → Bool → Int → List Int → Option (Bool)
  | 0, _, _, _, _, _, _, _, _ => none
  | k + 1, x1, x5, x17, x532000, x532001, x532002, x532003, x532004 => if x17 = true then (if x5 = true then (some true) else (none)) else (if x532000 = true then (phaetonlaw04_FrameLengths.j1 k x1 x5 39 x532000 x532001 x532002 x532003 x532004) else (phaetonlaw04_FrameLengths.j1 k x1 x5 19 x532000 x532001 x532002 x532003 x532004))
def phaetonlaw04_FrameLengths.j1 : Nat → Int → Bool → Int → Bool → Int → Bool → Int → List Int → Option (Bool)
  | 0, _, _, _, _, _, _, _, _ => none
  | k + 1, x1, x5, x6, x532000, x532001, x532002, x532003, x532004 => (frame_Head.f x532000 x532001 x532002 x532003 x532004).bind fun t535 => (if (t535.length : Int) = (wrap64 (x6 + (wrap64 (8 * (x532004.length : Int))))) then ((some (([] : List Int) : List Int)).bind fun y539 => (if y539.length + x532004.length < 140737488355328 then ((some (y539 ++ x532004 : List Int)).bind fun y542 => (if y542.length < 140737488355328 then ((some (y542 ++ [x1] : List Int)).bind fun y545 => ((frame_Right.f x532000 x532001 x532002 (wrap64 (x532003 + 1)) y545).bind fun t548 => (if x532002 = true then (phaetonlaw04_FrameLengths.j2 k x5 x6 t535 (t548 != false) x532000 x532001 x532002 x532003 x532004 x532000 x532001 x532002 (wrap64 (x532003 + 1)) y545) else (phaetonlaw04_FrameLengths.j2 k x5 x6 t535 (t548 != (decide (x532003 < 8))) x532000 x532001 x532002 x532003 x532004 x532000 x532001 x532002 (wrap64 (x532003 + 1)) y545)))) else (none))) else (none))) else (none))
def phaetonlaw04_FrameLengths.j2 : Nat → Bool → Int → List Int → Bool → Bool → Int → Bool → Int → List Int → Bool → Int → Bool → Int → List Int → Option (Bool)
  | 0, _, _, _, _, _, _, _, _, _, _, _, _, _, _ => none
  | k + 1, x5, x6, x7, x55, x532000, x532001, x532002, x532003, x532004, x539000, x539001, x539002, x539003, x539004 => if x55 = true then (none) else (if x532002 = true then (phaetonlaw04_FrameLengths.j3 k x5 x6 x7 true x539000 x539001 x539002 x539003 x539004) else (phaetonlaw04_FrameLengths.j3 k x5 x6 x7 (x532003 == 8) x539000 x539001 x539002 x539003 x539004))
def phaetonlaw04_FrameLengths.j3 : Nat → Bool → Int → List Int → Bool → Bool → Int → Bool → Int → List Int → Option (Bool)
  | 0, _, _, _, _, _, _, _, _, _ => none
  | k + 1, x5, x6, x7, x62, x539000, x539001, x539002, x539003, x539004 => if x62 = true then (if x5 = true then (some true) else (none)) else ((frame_Head.f x539000 x539001 x539002 x539003 x539004).bind fun t549 => (if x5 = true then (if (t549.length : Int) = (wrap64 ((x7.length : Int) + 8)) then (if 0 ≤ (wrap64 (x6 - 4)) then (if (wrap64 (x6 - 4)) ≤ (t549.length : Int) then (if (wrap64 (x6 - 4)) ≤ (x7.length : Int) then ((phaetonref01_Same.f k (t549.take ((wrap64 (x6 - 4)) : Int).toNat) (x7.take ((wrap64 (x6 - 4)) : Int).toNat)).bind fun t560 => (if t560 = true then (if 0 ≤ x6 then (if x6 ≤ (x7.length : Int) then (if (x7.length : Int) ≤ (t549.length : Int) then ((phaetonref01_Same.f k ((t549.take ((x7.length : Int) : Int).toNat).drop (x6 : Int).toNat) (x7.drop (x6 : Int).toNat)).bind fun t569 => (if t569 = true then (some true) else (none))) else (none)) else (none)) else (none)) else (none))) else (none)) else (none)) else (none)) else (none)) else (none)))
end
def phaetonlaw04_FrameLengths.f (k : Nat) (a0_0 : Bool) (a0_1 : Int) (a0_2 : Bool) (a0_3 : Int) (l0_4 : List Int) (a1 : Int) : Option (Bool) := (phaetonlaw04_head.f k).bind fun t532 => ((phaetonlaw04_Great.f a0_0 a0_1 a0_2 a0_3 l0_4).bind fun t533 => (if t533 = true then (phaetonlaw04_FrameLengths.j0 k a1 t532 true a0_0 a0_1 a0_2 a0_3 l0_4) else ((phaetonref04_Right.f k a0_0 a0_1 a0_2 a0_3 l0_4).bind fun t534 => (phaetonlaw04_FrameLengths.j0 k a1 t532 (!t534) a0_0 a0_1 a0_2 a0_3 l0_4))))
theorem phaetonlaw04_FrameLengths.mono_l : ∀ k, (∀ y0 y1 y2 y3 y4 y5 y6 y7, LeO (phaetonlaw04_FrameLengths.j0 k y0 y1 y2 y3 y4 y5 y6 y7) (phaetonlaw04_FrameLengths.j0 (k + 1) y0 y1 y2 y3 y4 y5 y6 y7)) ∧ (∀ y0 y1 y2 y3 y4 y5 y6 y7, LeO (phaetonlaw04_FrameLengths.j1 k y0 y1 y2 y3 y4 y5 y6 y7) (phaetonlaw04_FrameLengths.j1 (k + 1) y0 y1 y2 y3 y4 y5 y6 y7)) ∧ (∀ y0 y1 y2 y3 y4 y5 y6 y7 y8 y9 y10 y11 y12 y13, LeO (phaetonlaw04_FrameLengths.j2 k y0 y1 y2 y3 y4 y5 y6 y7 y8 y9 y10 y11 y12 y13) (phaetonlaw04_FrameLengths.j2 (k + 1) y0 y1 y2 y3 y4 y5 y6 y7 y8 y9 y10 y11 y12 y13)) ∧ (∀ y0 y1 y2 y3 y4 y5 y6 y7 y8, LeO (phaetonlaw04_FrameLengths.j3 k y0 y1 y2 y3 y4 y5 y6 y7 y8) (phaetonlaw04_FrameLengths.j3 (k + 1) y0 y1 y2 y3 y4 y5 y6 y7 y8))
  | 0 => ⟨fun _ _ _ _ _ _ _ _ r h => by simp [phaetonlaw04_FrameLengths.j0] at h, fun _ _ _ _ _ _ _ _ r h => by simp [phaetonlaw04_FrameLengths.j1] at h, fun _ _ _ _ _ _ _ _ _ _ _ _ _ _ r h => by simp [phaetonlaw04_FrameLengths.j2] at h, fun _ _ _ _ _ _ _ _ _ r h => by simp [phaetonlaw04_FrameLengths.j3] at h⟩
  | k + 1 => by
    obtain ⟨ih0, ih1, ih2, ih3⟩ := phaetonlaw04_FrameLengths.mono_l k
    refine ⟨?_, ?_, ?_, ?_⟩
    · intro y0 y1 y2 y3 y4 y5 y6 y7
      unfold phaetonlaw04_FrameLengths.j0
      repeat' first
      | (with_reducible exact ih0 _ _ _ _ _ _ _ _)
      | (with_reducible exact ih1 _ _ _ _ _ _ _ _)
      | (with_reducible exact ih2 _ _ _ _ _ _ _ _ _ _ _ _ _ _)
      | (with_reducible exact ih3 _ _ _ _ _ _ _ _ _)
      | (with_reducible exact phaetonlaw04_head.mono _)
      | (with_reducible exact phaetonref01_Same.mono _ _ _)
      | (with_reducible exact phaetonref04_Right.mono _ _ _ _ _ _)
      | (with_reducible exact LeO.refl _)
      | (with_reducible exact LeO.none _)
      | (with_reducible refine LeO.ite ?_ ?_)
      | (with_reducible refine LeO.bind ?_ (fun _ => ?_))
      | exact ih0 _ _ _ _ _ _ _ _
      | exact ih1 _ _ _ _ _ _ _ _
      | exact ih2 _ _ _ _ _ _ _ _ _ _ _ _ _ _
      | exact ih3 _ _ _ _ _ _ _ _ _
      | exact phaetonlaw04_head.mono _
      | exact phaetonref01_Same.mono _ _ _
      | exact phaetonref04_Right.mono _ _ _ _ _ _
      | exact LeO.none _
      | refine LeO.ite ?_ ?_
      | refine LeO.bind ?_ (fun _ => ?_)
    · intro y0 y1 y2 y3 y4 y5 y6 y7
      unfold phaetonlaw04_FrameLengths.j1
      repeat' first
      | (with_reducible exact ih0 _ _ _ _ _ _ _ _)
      | (with_reducible exact ih1 _ _ _ _ _ _ _ _)
      | (with_reducible exact ih2 _ _ _ _ _ _ _ _ _ _ _ _ _ _)
      | (with_reducible exact ih3 _ _ _ _ _ _ _ _ _)
      | (with_reducible exact phaetonlaw04_head.mono _)
      | (with_reducible exact phaetonref01_Same.mono _ _ _)
      | (with_reducible exact phaetonref04_Right.mono _ _ _ _ _ _)
      | (with_reducible exact LeO.refl _)
      | (with_reducible exact LeO.none _)
      | (with_reducible refine LeO.ite ?_ ?_)
      | (with_reducible refine LeO.bind ?_ (fun _ => ?_))
      | exact ih0 _ _ _ _ _ _ _ _
      | exact ih1 _ _ _ _ _ _ _ _
      | exact ih2 _ _ _ _ _ _ _ _ _ _ _ _ _ _
      | exact ih3 _ _ _ _ _ _ _ _ _
      | exact phaetonlaw04_head.mono _
      | exact phaetonref01_Same.mono _ _ _
      | exact phaetonref04_Right.mono _ _ _ _ _ _
      | exact LeO.none _
      | refine LeO.ite ?_ ?_
      | refine LeO.bind ?_ (fun _ => ?_)
    · intro y0 y1 y2 y3 y4 y5 y6 y7 y8 y9 y10 y11 y12 y13
      unfold phaetonlaw04_FrameLengths.j2
      repeat' first
      | (with_reducible exact ih0 _ _ _ _ _ _ _ _)
      | (with_reducible exact ih1 _ _ _ _ _ _ _ _)
      | (with_reducible exact ih2 _ _ _ _ _ _ _ _ _ _ _ _ _ _)
      | (with_reducible exact ih3 _ _ _ _ _ _ _ _ _)
      | (with_reducible exact phaetonlaw04_head.mono _)
      | (with_reducible exact phaetonref01_Same.mono _ _ _)
      | (with_reducible exact phaetonref04_Right.mono _ _ _ _ _ _)
      | (with_reducible exact LeO.refl _)
      | (with_reducible exact LeO.none _)
      | (with_reducible refine LeO.ite ?_ ?_)
      | (with_reducible refine LeO.bind ?_ (fun _ => ?_))
      | exact ih0 _ _ _ _ _ _ _ _
      | exact ih1 _ _ _ _ _ _ _ _
      | exact ih2 _ _ _ _ _ _ _ _ _ _ _ _ _ _
      | exact ih3 _ _ _ _ _ _ _ _ _
      | exact phaetonlaw04_head.mono _
      | exact phaetonref01_Same.mono _ _ _
      | exact phaetonref04_Right.mono _ _ _ _ _ _
      | exact LeO.none _
      | refine LeO.ite ?_ ?_
      | refine LeO.bind ?_ (fun _ => ?_)
    · intro y0 y1 y2 y3 y4 y5 y6 y7 y8
      unfold phaetonlaw04_FrameLengths.j3
      repeat' first
      | (with_reducible exact ih0 _ _ _ _ _ _ _ _)
      | (with_reducible exact ih1 _ _ _ _ _ _ _ _)
      | (with_reducible exact ih2 _ _ _ _ _ _ _ _ _ _ _ _ _ _)
      | (with_reducible exact ih3 _ _ _ _ _ _ _ _ _)
      | (with_reducible exact phaetonlaw04_head.mono _)
      | (with_reducible exact phaetonref01_Same.mono _ _ _)
      | (with_reducible exact phaetonref04_Right.mono _ _ _ _ _ _)
      | (with_reducible exact LeO.refl _)
      | (with_reducible exact LeO.none _)
      | (with_reducible refine LeO.ite ?_ ?_)
      | (with_reducible refine LeO.bind ?_ (fun _ => ?_))
      | exact ih0 _ _ _ _ _ _ _ _
      | exact ih1 _ _ _ _ _ _ _ _
      | exact ih2 _ _ _ _ _ _ _ _ _ _ _ _ _ _
      | exact ih3 _ _ _ _ _ _ _ _ _
      | exact phaetonlaw04_head.mono _
      | exact phaetonref01_Same.mono _ _ _
      | exact phaetonref04_Right.mono _ _ _ _ _ _
      | exact LeO.none _
      | refine LeO.ite ?_ ?_
      | refine LeO.bind ?_ (fun _ => ?_)
theorem phaetonlaw04_FrameLengths.mono : ∀ a0 a1 a2 a3 a4 a5 k, LeO (phaetonlaw04_FrameLengths.f k a0 a1 a2 a3 a4 a5) (phaetonlaw04_FrameLengths.f (k + 1) a0 a1 a2 a3 a4 a5) := by
  intro a0 a1 a2 a3 a4 a5 k
  obtain ⟨ih0, ih1, ih2, ih3⟩ := phaetonlaw04_FrameLengths.mono_l k
  unfold phaetonlaw04_FrameLengths.f
  repeat' first
      | (with_reducible exact ih0 _ _ _ _ _ _ _ _)
      | (with_reducible exact ih1 _ _ _ _ _ _ _ _)
      | (with_reducible exact ih2 _ _ _ _ _ _ _ _ _ _ _ _ _ _)
      | (with_reducible exact ih3 _ _ _ _ _ _ _ _ _)
      | (with_reducible exact phaetonlaw04_head.mono _)
      | (with_reducible exact phaetonref01_Same.mono _ _ _)
      | (with_reducible exact phaetonref04_Right.mono _ _ _ _ _ _)
      | (with_reducible exact LeO.refl _)
      | (with_reducible exact LeO.none _)
      | (with_reducible refine LeO.ite ?_ ?_)
      | (with_reducible refine LeO.bind ?_ (fun _ => ?_))
      | exact ih0 _ _ _ _ _ _ _ _
      | exact ih1 _ _ _ _ _ _ _ _
      | exact ih2 _ _ _ _ _ _ _ _ _ _ _ _ _ _
      | exact ih3 _ _ _ _ _ _ _ _ _
      | exact phaetonlaw04_head.mono _
      | exact phaetonref01_Same.mono _ _ _
      | exact phaetonref04_Right.mono _ _ _ _ _ _
      | exact LeO.none _
      | refine LeO.ite ?_ ?_
      | refine LeO.bind ?_ (fun _ => ?_)
def phaetonlaw04_FrameLengths.T13 : Bool × List (List Nat × List Nat) := (true, [([], []), ([0], [0]), ([], []), ([2], [2]), ([3], [3]), ([4, 1], [4]), ([5], [5]), ([6, 5], [5, 6]), ([7, 5], [5, 7]), ([5, 8], [5, 8]), ([1, 9], [1, 9])])
def phaetonlaw04_FrameLengths.B13 : List Nat := [0, 1, 0, 4, 12, 31, 63, 127, 255, 511, 1023]
theorem phaetonlaw04_FrameLengths.tab13 : rtab .any (opsOf Try.f8 13) = phaetonlaw04_FrameLengths.T13 := by kernel_rfl
theorem phaetonlaw04_FrameLengths.bits13 : waitsOk phaetonlaw04_FrameLengths.T13.2 phaetonlaw04_FrameLengths.B13 = true := by kernel_rfl
def phaetonlaw04_FrameLengths.T18 : Bool × List (List Nat × List Nat) := (true, [([], []), ([0], [0]), ([1], [1]), ([2, 1], [1, 2]), ([1], [1]), ([4, 1], [1, 4]), ([5, 1], [1, 5]), ([3, 6, 1], [1, 3, 6]), ([1, 7], [1, 7]), ([8, 1], [8]), ([9], [9]), ([9], [9]), ([11, 9], [9, 11]), ([10, 12, 9], [9, 10, 12]), ([9], [9]), ([9], [9]), ([15, 9], [9, 15]), ([14, 16, 9], [9, 14, 16]), ([13, 17, 9, 9], [9, 13, 17]), ([9, 18], [9, 18]), ([19, 18], [19]), ([20], [20]), ([20], [20]), ([20], [20]), ([23, 20], [20, 23]), ([21, 22, 24, 20], [20, 21, 22, 24]), ([20], [20]), ([20], [20]), ([26, 27, 20], [20, 26, 27]), ([25, 28, 20, 20], [20, 25, 28]), ([20, 29], [20, 29]), ([30, 29, 0, 1, 2, 3, 4, 5, 6, 7, 8, 9, 10, 11, 12, 13, 14, 15, 16, 17, 18, 19, 20, 21, 22, 23, 24, 25, 26, 27, 28, 29, 30], [30])])
def phaetonlaw04_FrameLengths.B18 : List Nat := [0, 1, 3, 7, 3, 19, 51, 127, 255, 511, 1023, 1023, 3071, 8191, 1023, 1023, 33791, 115711, 262143, 524287, 1048575, 2097151, 2097151, 2097151, 10485759, 33554431, 2097151, 2097151, 203423743, 536870911, 1073741823, 2147483647]
theorem phaetonlaw04_FrameLengths.tab18 : rtab .any (opsOf Try.f8 18) = phaetonlaw04_FrameLengths.T18 := by kernel_rfl
theorem phaetonlaw04_FrameLengths.bits18 : waitsOk phaetonlaw04_FrameLengths.T18.2 phaetonlaw04_FrameLengths.B18 = true := by kernel_rfl
set_option maxHeartbeats 8000000 in
set_option maxRecDepth 100000 in
theorem phaetonlaw04_FrameLengths.calls (k : Nat) (a0_0 : Bool) (a0_1 : Int) (a0_2 : Bool) (a0_3 : Int) (A0_4 : Option Addr) (c0_4 : Nat) (l0_4 : List Int) (a1 : Int) (r : Bool) (w : World) (hr0_4 : Kd.C (Kd.int .u8) w A0_4 l0_4.length l0_4) (hc0_4 : l0_4.length ≤ c0_4) (h : phaetonlaw04_FrameLengths.f k a0_0 a0_1 a0_2 a0_3 l0_4 a1 = some r) :
    Calls Try.prog 8 #[.agg #[.bool a0_0, .int .i64 a0_1, .bool a0_2, .int .i64 a0_3, .slice A0_4 l0_4.length c0_4], .int .u8 a1] w fun e w' => e = .returned (.bool r) ∧ Below w.heap.size w w' := by
  have hu24 := Try.underlying24
  have HR0_4 := Aside0.mk hr0_4
  have HC0_4 := Aside0.mk hc0_4
  clear hr0_4 hc0_4
  have HB := Aside0.mk (Below.refl w.heap.size w)
  have H : ((phaetonlaw04_head.f k).bind fun t532 => ((phaetonlaw04_Great.f a0_0 a0_1 a0_2 a0_3 l0_4).bind fun t533 => (if t533 = true then (phaetonlaw04_FrameLengths.j0 k a1 t532 true a0_0 a0_1 a0_2 a0_3 l0_4) else ((phaetonref04_Right.f k a0_0 a0_1 a0_2 a0_3 l0_4).bind fun t534 => (phaetonlaw04_FrameLengths.j0 k a1 t532 (!t534) a0_0 a0_1 a0_2 a0_3 l0_4))))) = some r := h
  clear h
  replace H := Option.bind_eq_some_iff.mp H
  obtain ⟨t532, A30, H⟩ := H
  replace H : ((phaetonlaw04_Great.f a0_0 a0_1 a0_2 a0_3 l0_4).bind fun t533 => (if t533 = true then (phaetonlaw04_FrameLengths.j0 k a1 t532 true a0_0 a0_1 a0_2 a0_3 l0_4) else ((phaetonref04_Right.f k a0_0 a0_1 a0_2 a0_3 l0_4).bind fun t534 => (phaetonlaw04_FrameLengths.j0 k a1 t532 (!t534) a0_0 a0_1 a0_2 a0_3 l0_4)))) = some r := H
  have A3 := Aside0.mk A30
  clear A30
  have HC4 := Aside0.mk H
  clear H
  go_enter Try.func8, Try.ntmps8
  (try simp only [List.append])
  go_upto_region 2 with (first | ((with_reducible refine gate_dst (N := 2) rfl ?_); (try (refine gate_guard (by rfl) ?_; dsimp only)); refine box_event ?hg (N := 2) ?hd (cs := #[.bool a0_0, .int .i64 a0_1, .bool a0_2, .int .i64 a0_3, .slice A0_4 l0_4.length c0_4]) (t := 24) ?hr ?_; (case hd => rfl); (case hg => rfl); (case hr => first | (go_simp; done) | (go_simp; rfl)); intro gb531 hg w5 hbox hb; have n0_ := Aside0.mk (below_step (by repeat (first | (with_reducible first | exact HB.out | apply below_alloc | apply pw_below_drewN | apply below_drew1) | exact HB.out)) hb); have n1_ := Aside0.mk (hbox); have n2_ := Aside0.mk ((by rw [hg]; exact (below_size (by repeat (first | (with_reducible first | exact HB.out | apply below_alloc | apply pw_below_drewN | apply below_drew1) | exact HB.out))) : w.heap.size ≤ gb531)); have n3_ := Aside0.mk ((by rw [hg]; exact (below_size (by repeat (first | (with_reducible first | exact HB.out | apply below_alloc | apply pw_below_drewN | apply below_drew1) | exact HB.out))) : w.heap.size ≤ gb531)); clear HB; have HB := n0_; have BK531 := n1_; have GW531 := n2_; have GE531 := n3_; clear n0_ n1_ n2_ n3_; clear hb hbox hg) | ((with_reducible refine gate_callee (f := 10) rfl ?_); refine goesL_ (some 10) rfl rfl Try.func10 (by kernel_rfl) rfl #[] rfl (by (try simp only [List.map_toArray, List.map_cons, List.map_nil]); first | done | rfl | (simp only [List.length_drop, List.length_take]; rfl)) ?_; (with_reducible refine (phaetonlaw04_head.calls k  t532 _ A3.out).mono ?_); rintro e w6 ⟨rfl, hb⟩; refine ⟨_, rfl, ?_⟩; have n0_ := Aside0.mk (blk_below (g := gb531) (o := .cells #[.bool a0_0, .int .i64 a0_1, .bool a0_2, .int .i64 a0_3, .slice A0_4 l0_4.length c0_4] 24 (0, 0)) (by (with_reducible repeat (first | refine blk_drewN ?_ _ | refine blk_drew ?_ | refine blk_alloc ?_ _)); exact BK531.out) hb); have n1_ := Aside0.mk (below_step (by repeat (first | (with_reducible first | exact HB.out | apply below_alloc | apply pw_below_drewN | apply below_drew1 | refine below_set ?_ GE531.out) | exact HB.out)) hb); clear BK531; clear HB; have BK531 := n0_; have HB := n1_; clear n0_ n1_; (try clear hb); (try clear hb2); (try clear hk); (try clear hi)))
  (try simp only [Act.put, List.setIfInBounds_toArray, List.set_cons_zero, List.set_cons_succ])
  go_cut [17] (fun v17 wc => ∃ (kq : Nat) (x17_3 : Bool), v17 = .bool x17_3 ∧ Aside0 (phaetonlaw04_FrameLengths.j0 kq a1 t532 x17_3 a0_0 a0_1 a0_2 a0_3 l0_4 = some r) ∧ Aside0 (kq ≤ k) ∧ Aside0 (wc.heap[gb531]? = some (.cells #[.bool a0_0, .int .i64 a0_1, .bool a0_2, .int .i64 a0_3, (.slice A0_4 l0_4.length c0_4)] 24 (0, 0))) ∧ Aside0 (Below w.heap.size w wc))
  case first =>
    have H := HC4.out
    clear HC4
    replace H := Option.bind_eq_some_iff.mp H
    obtain ⟨t533, A70, H⟩ := H
    replace H : (if t533 = true then (phaetonlaw04_FrameLengths.j0 k a1 t532 true a0_0 a0_1 a0_2 a0_3 l0_4) else ((phaetonref04_Right.f k a0_0 a0_1 a0_2 a0_3 l0_4).bind fun t534 => (phaetonlaw04_FrameLengths.j0 k a1 t532 (!t534) a0_0 a0_1 a0_2 a0_3 l0_4))) = some r := H
    have A7 := Aside0.mk A70
    clear A70
    by_cases c8 : t533 = true
    · subst c8
      have H1 : (phaetonlaw04_FrameLengths.j0 k a1 t532 true a0_0 a0_1 a0_2 a0_3 l0_4) = some r := by rw [if_pos rfl] at H; exact H
      clear H
      have H := H1
      clear H1
      have H' := Aside0.mk H
      clear H
      have hcz9_0 : w6.cell? ⟨gb531, 0, none⟩ = some (.bool a0_0) := (blk_cell BK531.out 0).trans rfl
      have hcz9_1 : w6.cell? ⟨gb531, 1, none⟩ = some (.int .i64 a0_1) := (blk_cell BK531.out 1).trans rfl
      have hcz9_2 : w6.cell? ⟨gb531, 2, none⟩ = some (.bool a0_2) := (blk_cell BK531.out 2).trans rfl
      have hcz9_3 : w6.cell? ⟨gb531, 3, none⟩ = some (.int .i64 a0_3) := (blk_cell BK531.out 3).trans rfl
      have hcz9_4 : w6.cell? ⟨gb531, 4, none⟩ = some (.slice A0_4 l0_4.length c0_4) := (blk_cell BK531.out 4).trans rfl
      have hfz9_0 := blk_frozen BK531.out 0
      have hfz9_1 := blk_frozen BK531.out 1
      have hfz9_2 := blk_frozen BK531.out 2
      have hfz9_3 := blk_frozen BK531.out 3
      have hfz9_4 := blk_frozen BK531.out 4
      go_wp2_with (first | ((with_reducible refine gate_store (t := 24) (p := 2) rfl ?_); refine HW.store_box rfl rfl 24 _ _ rfl rfl rfl BK531.out rfl (by kernel_rfl) (by intro q hq; simp only [List.mem_cons, List.not_mem_nil, or_false] at hq; rcases hq with rfl | rfl | rfl | rfl | rfl <;> rfl) ?_; intro w1_ hw1_; simp only [List.toList_toArray, World.setCells, Nat.zero_add, Nat.reduceAdd] at hw1_; subst hw1_) | ((with_reducible refine gate_callee (f := 11) rfl ?_); refine goesL_ (some 12) rfl rfl Try.func11 (by kernel_rfl) rfl #[.agg #[.bool a0_0, .int .i64 a0_1, .bool a0_2, .int .i64 a0_3, .slice A0_4 l0_4.length c0_4]] rfl (by (try simp only [List.map_toArray, List.map_cons, List.map_nil]); first | done | rfl | (simp only [List.length_drop, List.length_take]; rfl)) ?_; (with_reducible refine (phaetonlaw04_Great.calls a0_0 a0_1 a0_2 a0_3 _ _ l0_4 true _ ?side1 ?side2 A7.out).mono ?_); (case side1 => repeat (first | exact (Kd.C_below HR0_4.out HB.out) | (with_reducible refine Kd.C_alloc ?_ _) | (with_reducible refine Kd.C_drewN ?_ _) | (with_reducible refine Kd.C_drew ?_))); (case side2 => exact HC0_4.out); rintro e w10 ⟨rfl, hb⟩; refine ⟨_, rfl, ?_⟩; have n0_ := Aside0.mk (blk_below (g := gb531) (o := .cells #[.bool a0_0, .int .i64 a0_1, .bool a0_2, .int .i64 a0_3, .slice A0_4 l0_4.length c0_4] 24 (0, 0)) (by (with_reducible repeat (first | refine blk_drewN ?_ _ | refine blk_drew ?_ | refine blk_alloc ?_ _)); exact BK531.out) hb); have n1_ := Aside0.mk (below_step (by repeat (first | (with_reducible first | exact HB.out | apply below_alloc | apply pw_below_drewN | apply below_drew1 | refine below_set ?_ GE531.out) | exact HB.out)) hb); clear BK531; clear HB; have BK531 := n0_; have HB := n1_; clear n0_ n1_; (try clear hb); (try clear hb2); (try clear hk); (try clear hi)))
      go_meet
      case rel => exact ⟨_, (true), (by first | rfl | (simp; done) | (simp [*]; done)), H', ⟨by first | omega | exact Nat.le_refl _⟩, ⟨by (with_reducible repeat (first | refine blk_drewN ?_ _ | refine blk_drew ?_ | refine blk_alloc ?_ _)); exact BK531.out⟩, ⟨by repeat (first | (with_reducible first | exact HB.out | apply below_alloc | apply pw_below_drewN | apply below_drew1 | refine below_set ?_ GE531.out) | exact HB.out)⟩⟩
    · replace c8 := Bool.eq_false_iff.mpr c8
      subst c8
      have H1 : ((phaetonref04_Right.f k a0_0 a0_1 a0_2 a0_3 l0_4).bind fun t534 => (phaetonlaw04_FrameLengths.j0 k a1 t532 (!t534) a0_0 a0_1 a0_2 a0_3 l0_4)) = some r := by rw [if_neg (show ¬ (false = true) by decide)] at H; exact H
      clear H
      have H := H1
      clear H1
      replace H := Option.bind_eq_some_iff.mp H
      obtain ⟨t534, A110, H⟩ := H
      replace H : (phaetonlaw04_FrameLengths.j0 k a1 t532 (!t534) a0_0 a0_1 a0_2 a0_3 l0_4) = some r := H
      have A11 := Aside0.mk A110
      clear A110
      have H' := Aside0.mk H
      clear H
      have hcz12_0 : w6.cell? ⟨gb531, 0, none⟩ = some (.bool a0_0) := (blk_cell BK531.out 0).trans rfl
      have hcz12_1 : w6.cell? ⟨gb531, 1, none⟩ = some (.int .i64 a0_1) := (blk_cell BK531.out 1).trans rfl
      have hcz12_2 : w6.cell? ⟨gb531, 2, none⟩ = some (.bool a0_2) := (blk_cell BK531.out 2).trans rfl
      have hcz12_3 : w6.cell? ⟨gb531, 3, none⟩ = some (.int .i64 a0_3) := (blk_cell BK531.out 3).trans rfl
      have hcz12_4 : w6.cell? ⟨gb531, 4, none⟩ = some (.slice A0_4 l0_4.length c0_4) := (blk_cell BK531.out 4).trans rfl
      have hfz12_0 := blk_frozen BK531.out 0
      have hfz12_1 := blk_frozen BK531.out 1
      have hfz12_2 := blk_frozen BK531.out 2
      have hfz12_3 := blk_frozen BK531.out 3
      have hfz12_4 := blk_frozen BK531.out 4
      go_wp2_with (first | ((with_reducible refine gate_store (t := 24) (p := 2) rfl ?_); refine HW.store_box rfl rfl 24 _ _ rfl rfl rfl BK531.out rfl (by kernel_rfl) (by intro q hq; simp only [List.mem_cons, List.not_mem_nil, or_false] at hq; rcases hq with rfl | rfl | rfl | rfl | rfl <;> rfl) ?_; intro w1_ hw1_; simp only [List.toList_toArray, World.setCells, Nat.zero_add, Nat.reduceAdd] at hw1_; subst hw1_) | ((with_reducible refine gate_callee (f := 11) rfl ?_); refine goesL_ (some 12) rfl rfl Try.func11 (by kernel_rfl) rfl #[.agg #[.bool a0_0, .int .i64 a0_1, .bool a0_2, .int .i64 a0_3, .slice A0_4 l0_4.length c0_4]] rfl (by (try simp only [List.map_toArray, List.map_cons, List.map_nil]); first | done | rfl | (simp only [List.length_drop, List.length_take]; rfl)) ?_; (with_reducible refine (phaetonlaw04_Great.calls a0_0 a0_1 a0_2 a0_3 _ _ l0_4 false _ ?side1 ?side2 A7.out).mono ?_); (case side1 => repeat (first | exact (Kd.C_below HR0_4.out HB.out) | (with_reducible refine Kd.C_alloc ?_ _) | (with_reducible refine Kd.C_drewN ?_ _) | (with_reducible refine Kd.C_drew ?_))); (case side2 => exact HC0_4.out); rintro e w13 ⟨rfl, hb⟩; refine ⟨_, rfl, ?_⟩; have n0_ := Aside0.mk (blk_below (g := gb531) (o := .cells #[.bool a0_0, .int .i64 a0_1, .bool a0_2, .int .i64 a0_3, .slice A0_4 l0_4.length c0_4] 24 (0, 0)) (by (with_reducible repeat (first | refine blk_drewN ?_ _ | refine blk_drew ?_ | refine blk_alloc ?_ _)); exact BK531.out) hb); have n1_ := Aside0.mk (below_step (by repeat (first | (with_reducible first | exact HB.out | apply below_alloc | apply pw_below_drewN | apply below_drew1 | refine below_set ?_ GE531.out) | exact HB.out)) hb); clear BK531; clear HB; have BK531 := n0_; have HB := n1_; clear n0_ n1_; (try clear hb); (try clear hb2); (try clear hk); (try clear hi); have hcz14_0 : w13.cell? ⟨gb531, 0, none⟩ = some (.bool a0_0) := (blk_cell BK531.out 0).trans rfl; have hcz14_1 : w13.cell? ⟨gb531, 1, none⟩ = some (.int .i64 a0_1) := (blk_cell BK531.out 1).trans rfl; have hcz14_2 : w13.cell? ⟨gb531, 2, none⟩ = some (.bool a0_2) := (blk_cell BK531.out 2).trans rfl; have hcz14_3 : w13.cell? ⟨gb531, 3, none⟩ = some (.int .i64 a0_3) := (blk_cell BK531.out 3).trans rfl; have hcz14_4 : w13.cell? ⟨gb531, 4, none⟩ = some (.slice A0_4 l0_4.length c0_4) := (blk_cell BK531.out 4).trans rfl; have hfz14_0 := blk_frozen BK531.out 0; have hfz14_1 := blk_frozen BK531.out 1; have hfz14_2 := blk_frozen BK531.out 2; have hfz14_3 := blk_frozen BK531.out 3; have hfz14_4 := blk_frozen BK531.out 4) | (go_at_call 13; (with_reducible refine (phaetonref04_Right.calls k a0_0 a0_1 a0_2 a0_3 _ _ l0_4 t534 _ ?side1 ?side2 A11.out).mono ?_); (case side1 => repeat (first | exact (Kd.C_below HR0_4.out HB.out) | (with_reducible refine Kd.C_alloc ?_ _) | (with_reducible refine Kd.C_drewN ?_ _) | (with_reducible refine Kd.C_drew ?_))); (case side2 => exact HC0_4.out); rintro e w15 ⟨rfl, hb⟩; have n0_ := Aside0.mk (blk_below (g := gb531) (o := .cells #[.bool a0_0, .int .i64 a0_1, .bool a0_2, .int .i64 a0_3, .slice A0_4 l0_4.length c0_4] 24 (0, 0)) (by (with_reducible repeat (first | refine blk_drewN ?_ _ | refine blk_drew ?_ | refine blk_alloc ?_ _)); exact BK531.out) hb); have n1_ := Aside0.mk (below_step (by repeat (first | (with_reducible first | exact HB.out | apply below_alloc | apply pw_below_drewN | apply below_drew1 | refine below_set ?_ GE531.out) | exact HB.out)) hb); clear BK531; clear HB; have BK531 := n0_; have HB := n1_; clear n0_ n1_; (try clear hb); (try clear hb2); (try clear hk); (try clear hi)))
      go_meet
      case rel => exact ⟨_, (!t534), (by first | rfl | (simp; done) | (simp [*]; done)), H', ⟨by first | omega | exact Nat.le_refl _⟩, ⟨by (with_reducible repeat (first | refine blk_drewN ?_ _ | refine blk_drew ?_ | refine blk_alloc ?_ _)); exact BK531.out⟩, ⟨by repeat (first | (with_reducible first | exact HB.out | apply below_alloc | apply pw_below_drewN | apply below_drew1 | refine below_set ?_ GE531.out) | exact HB.out)⟩⟩
  case rest =>
    clear HC4
    try clear c1
    try clear p2
    try clear c8
    try clear c10
    try clear c11
    try clear hcz12_0
    try clear hcz12_1
    try clear hcz12_2
    try clear hcz12_3
    try clear hcz12_4
    try clear hcz14_0
    try clear hcz14_1
    try clear hcz14_2
    try clear hcz14_3
    try clear hcz14_4
    try clear hcz9_0
    try clear hcz9_1
    try clear hcz9_2
    try clear hcz9_3
    try clear hcz9_4
    try clear hfz12_0
    try clear hfz12_1
    try clear hfz12_2
    try clear hfz12_3
    try clear hfz12_4
    try clear hfz14_0
    try clear hfz14_1
    try clear hfz14_2
    try clear hfz14_3
    try clear hfz14_4
    try clear hfz9_0
    try clear hfz9_1
    try clear hfz9_2
    try clear hfz9_3
    try clear hfz9_4
    obtain ⟨kq, x17_3, rfl, HA, HJ3, BK531, HB⟩ := hcut
    cases kq with
    | zero => exact absurd HA.out (by simp [phaetonlaw04_FrameLengths.j0])
    | succ kj3 =>
      have H := HA.out
      clear HA
      simp only [phaetonlaw04_FrameLengths.j0] at H
      by_cases c16 : x17_3 = true
      · subst c16
        have H1 : (if t532 = true then (some true) else (none)) = some r := by rw [if_pos rfl] at H; exact H
        clear H
        have H := H1
        clear H1
        by_cases c17 : t532 = true
        · subst c17
          have H1 : (some true) = some r := by rw [if_pos rfl] at H; exact H
          clear H
          have H := H1
          clear H1
          obtain rfl := Option.some.inj H
          go_wp2
          go_ret
          exact ⟨by first | rfl | (simp [errW_none, errW_some] <;> rfl) | (simp [*, errW_none, errW_some] <;> rfl), by repeat (first | (with_reducible first | exact HB.out | apply below_alloc | apply pw_below_drewN | apply below_drew1 | refine below_set ?_ GE531.out) | exact HB.out)⟩
        · replace c17 := Bool.eq_false_iff.mpr c17
          subst c17
          have H1 : (none) = some r := by rw [if_neg (show ¬ (false = true) by decide)] at H; exact H
          clear H
          have H := H1
          clear H1
          exact absurd H (by simp)
      · replace c16 := Bool.eq_false_iff.mpr c16
        subst c16
        have H1 : (if a0_0 = true then (phaetonlaw04_FrameLengths.j1 kj3 a1 t532 39 a0_0 a0_1 a0_2 a0_3 l0_4) else (phaetonlaw04_FrameLengths.j1 kj3 a1 t532 19 a0_0 a0_1 a0_2 a0_3 l0_4)) = some r := by rw [if_neg (show ¬ (false = true) by decide)] at H; exact H
        clear H
        have H := H1
        clear H1
        have HC18 := Aside0.mk H
        clear H
        have hcz19_0 : wc.cell? ⟨gb531, 0, none⟩ = some (.bool a0_0) := (blk_cell BK531.out 0).trans rfl
        have hcz19_1 : wc.cell? ⟨gb531, 1, none⟩ = some (.int .i64 a0_1) := (blk_cell BK531.out 1).trans rfl
        have hcz19_2 : wc.cell? ⟨gb531, 2, none⟩ = some (.bool a0_2) := (blk_cell BK531.out 2).trans rfl
        have hcz19_3 : wc.cell? ⟨gb531, 3, none⟩ = some (.int .i64 a0_3) := (blk_cell BK531.out 3).trans rfl
        have hcz19_4 : wc.cell? ⟨gb531, 4, none⟩ = some (.slice A0_4 l0_4.length c0_4) := (blk_cell BK531.out 4).trans rfl
        have hfz19_0 := blk_frozen BK531.out 0
        have hfz19_1 := blk_frozen BK531.out 1
        have hfz19_2 := blk_frozen BK531.out 2
        have hfz19_3 := blk_frozen BK531.out 3
        have hfz19_4 := blk_frozen BK531.out 4
        go_upto_if 20 with (fail)
        go_cut [6] (fun v6 wc => ∃ (kq : Nat) (x6_17 : Int), v6 = .int .i64 x6_17 ∧ Aside0 (phaetonlaw04_FrameLengths.j1 kq a1 t532 x6_17 a0_0 a0_1 a0_2 a0_3 l0_4 = some r) ∧ Aside0 (kq ≤ kj3) ∧ Aside0 (wc.heap[gb531]? = some (.cells #[.bool a0_0, .int .i64 a0_1, .bool a0_2, .int .i64 a0_3, (.slice A0_4 l0_4.length c0_4)] 24 (0, 0))) ∧ Aside0 (Below w.heap.size w wc))
        case first =>
          have H := HC18.out
          clear HC18
          by_cases c20 : a0_0 = true
          · subst c20
            have H1 : (phaetonlaw04_FrameLengths.j1 kj3 a1 t532 39 true a0_1 a0_2 a0_3 l0_4) = some r := by rw [if_pos rfl] at H; exact H
            clear H
            have H := H1
            clear H1
            have H' := Aside0.mk H
            clear H
            go_wp2
            go_meet
            case rel => exact ⟨_, (39), (by first | rfl | (simp; done) | (simp [*]; done)), H', ⟨by have := HJ3.out; first | omega | exact Nat.le_refl _⟩, ⟨by (with_reducible repeat (first | refine blk_drewN ?_ _ | refine blk_drew ?_ | refine blk_alloc ?_ _)); exact BK531.out⟩, ⟨by repeat (first | (with_reducible first | exact HB.out | apply below_alloc | apply pw_below_drewN | apply below_drew1 | refine below_set ?_ GE531.out) | exact HB.out)⟩⟩
          · replace c20 := Bool.eq_false_iff.mpr c20
            subst c20
            have H1 : (phaetonlaw04_FrameLengths.j1 kj3 a1 t532 19 false a0_1 a0_2 a0_3 l0_4) = some r := by rw [if_neg (show ¬ (false = true) by decide)] at H; exact H
            clear H
            have H := H1
            clear H1
            have H' := Aside0.mk H
            clear H
            go_wp2
            go_meet
            case rel => exact ⟨_, (19), (by first | rfl | (simp; done) | (simp [*]; done)), H', ⟨by have := HJ3.out; first | omega | exact Nat.le_refl _⟩, ⟨by (with_reducible repeat (first | refine blk_drewN ?_ _ | refine blk_drew ?_ | refine blk_alloc ?_ _)); exact BK531.out⟩, ⟨by repeat (first | (with_reducible first | exact HB.out | apply below_alloc | apply pw_below_drewN | apply below_drew1 | refine below_set ?_ GE531.out) | exact HB.out)⟩⟩
        case rest =>
          clear HC18
          try clear c1
          try clear c2
          try clear p2
          try clear c8
          try clear c10
          try clear c11
          try clear c16
          try clear c17
          try clear c20
          try clear hcz12_0
          try clear hcz12_1
          try clear hcz12_2
          try clear hcz12_3
          try clear hcz12_4
          try clear hcz14_0
          try clear hcz14_1
          try clear hcz14_2
          try clear hcz14_3
          try clear hcz14_4
          try clear hcz19_0
          try clear hcz19_1
          try clear hcz19_2
          try clear hcz19_3
          try clear hcz19_4
          try clear hcz9_0
          try clear hcz9_1
          try clear hcz9_2
          try clear hcz9_3
          try clear hcz9_4
          try clear hfz12_0
          try clear hfz12_1
          try clear hfz12_2
          try clear hfz12_3
          try clear hfz12_4
          try clear hfz14_0
          try clear hfz14_1
          try clear hfz14_2
          try clear hfz14_3
          try clear hfz14_4
          try clear hfz19_0
          try clear hfz19_1
          try clear hfz19_2
          try clear hfz19_3
          try clear hfz19_4
          try clear hfz9_0
          try clear hfz9_1
          try clear hfz9_2
          try clear hfz9_3
          try clear hfz9_4
          try clear p2
          obtain ⟨kq, x6_17, rfl, HA, HJ17, BK531, HB⟩ := hcut
          cases kq with
          | zero => exact absurd HA.out (by simp [phaetonlaw04_FrameLengths.j1])
          | succ kj17 =>
            have H := HA.out
            clear HA
            simp only [phaetonlaw04_FrameLengths.j1] at H
            replace H := Option.bind_eq_some_iff.mp H
            obtain ⟨t535, A210, H⟩ := H
            replace H : (if (t535.length : Int) = (wrap64 (x6_17 + (wrap64 (8 * (l0_4.length : Int))))) then ((some (([] : List Int) : List Int)).bind fun y539 => (if y539.length + l0_4.length < 140737488355328 then ((some (y539 ++ l0_4 : List Int)).bind fun y542 => (if y542.length < 140737488355328 then ((some (y542 ++ [a1] : List Int)).bind fun y545 => ((frame_Right.f a0_0 a0_1 a0_2 (wrap64 (a0_3 + 1)) y545).bind fun t548 => (if a0_2 = true then (phaetonlaw04_FrameLengths.j2 kj17 t532 x6_17 t535 (t548 != false) a0_0 a0_1 a0_2 a0_3 l0_4 a0_0 a0_1 a0_2 (wrap64 (a0_3 + 1)) y545) else (phaetonlaw04_FrameLengths.j2 kj17 t532 x6_17 t535 (t548 != (decide (a0_3 < 8))) a0_0 a0_1 a0_2 a0_3 l0_4 a0_0 a0_1 a0_2 (wrap64 (a0_3 + 1)) y545)))) else (none))) else (none))) else (none)) = some r := H
            have A21 := Aside0.mk A210
            clear A210
            by_cases c22 : (t535.length : Int) = (wrap64 (x6_17 + (wrap64 (8 * (l0_4.length : Int)))))
            · rw [if_pos c22] at H
              have c22b0 : ((t535.length : Int) == (wrap64 (x6_17 + (wrap64 (8 * (l0_4.length : Int)))))) = true := beq_iff_eq.mpr c22
              have c22b1 : ((t535.length : Int) != (wrap64 (x6_17 + (wrap64 (8 * (l0_4.length : Int)))))) = false := bne_eq_false_iff_eq.mpr c22
              clear c22
              obtain ⟨y539, hy539⟩ : ∃ y_ : List Int, y_ = (([] : List Int)) := ⟨_, rfl⟩
              replace H : (if y539.length + l0_4.length < 140737488355328 then ((some (y539 ++ l0_4 : List Int)).bind fun y542 => (if y542.length < 140737488355328 then ((some (y542 ++ [a1] : List Int)).bind fun y545 => ((frame_Right.f a0_0 a0_1 a0_2 (wrap64 (a0_3 + 1)) y545).bind fun t548 => (if a0_2 = true then (phaetonlaw04_FrameLengths.j2 kj17 t532 x6_17 t535 (t548 != false) a0_0 a0_1 a0_2 a0_3 l0_4 a0_0 a0_1 a0_2 (wrap64 (a0_3 + 1)) y545) else (phaetonlaw04_FrameLengths.j2 kj17 t532 x6_17 t535 (t548 != (decide (a0_3 < 8))) a0_0 a0_1 a0_2 a0_3 l0_4 a0_0 a0_1 a0_2 (wrap64 (a0_3 + 1)) y545)))) else (none))) else (none)) = some r := by first | (rw [hy539]; with_reducible exact H) | (have H2_ := (Option.bind_some _ _).symm.trans H; rw [hy539]; with_reducible exact H2_) | (have H2_ := (Option.bind_some _ _).symm.trans H; with_reducible exact H2_) | with_reducible exact H | (rw [hy539]; exact H) | exact H
              have Ny539 := Aside0.mk hy539
              clear hy539
              by_cases c23 : y539.length + l0_4.length < 140737488355328
              · rw [if_pos c23] at H
                have LMc23 := Aside0.mk c23
                clear c23
                obtain ⟨y542, hy542⟩ : ∃ y_ : List Int, y_ = (y539 ++ l0_4) := ⟨_, rfl⟩
                replace H : (if y542.length < 140737488355328 then ((some (y542 ++ [a1] : List Int)).bind fun y545 => ((frame_Right.f a0_0 a0_1 a0_2 (wrap64 (a0_3 + 1)) y545).bind fun t548 => (if a0_2 = true then (phaetonlaw04_FrameLengths.j2 kj17 t532 x6_17 t535 (t548 != false) a0_0 a0_1 a0_2 a0_3 l0_4 a0_0 a0_1 a0_2 (wrap64 (a0_3 + 1)) y545) else (phaetonlaw04_FrameLengths.j2 kj17 t532 x6_17 t535 (t548 != (decide (a0_3 < 8))) a0_0 a0_1 a0_2 a0_3 l0_4 a0_0 a0_1 a0_2 (wrap64 (a0_3 + 1)) y545)))) else (none)) = some r := by first | (rw [hy542]; with_reducible exact H) | (have H2_ := (Option.bind_some _ _).symm.trans H; rw [hy542]; with_reducible exact H2_) | (have H2_ := (Option.bind_some _ _).symm.trans H; with_reducible exact H2_) | with_reducible exact H | (rw [hy542]; exact H) | exact H
                have Ny542 := Aside0.mk hy542
                clear hy542
                by_cases c24 : y542.length < 140737488355328
                · rw [if_pos c24] at H
                  have LMc24 := Aside0.mk c24
                  clear c24
                  obtain ⟨y545, hy545⟩ : ∃ y_ : List Int, y_ = (y542 ++ [a1]) := ⟨_, rfl⟩
                  replace H : ((frame_Right.f a0_0 a0_1 a0_2 (wrap64 (a0_3 + 1)) y545).bind fun t548 => (if a0_2 = true then (phaetonlaw04_FrameLengths.j2 kj17 t532 x6_17 t535 (t548 != false) a0_0 a0_1 a0_2 a0_3 l0_4 a0_0 a0_1 a0_2 (wrap64 (a0_3 + 1)) y545) else (phaetonlaw04_FrameLengths.j2 kj17 t532 x6_17 t535 (t548 != (decide (a0_3 < 8))) a0_0 a0_1 a0_2 a0_3 l0_4 a0_0 a0_1 a0_2 (wrap64 (a0_3 + 1)) y545))) = some r := by first | (rw [hy545]; with_reducible exact H) | (have H2_ := (Option.bind_some _ _).symm.trans H; rw [hy545]; with_reducible exact H2_) | (have H2_ := (Option.bind_some _ _).symm.trans H; with_reducible exact H2_) | with_reducible exact H | (rw [hy545]; exact H) | exact H
                  have Ny545 := Aside0.mk hy545
                  clear hy545
                  have HC25 := Aside0.mk H
                  clear H
                  have hcz26_0 : wc.cell? ⟨gb531, 0, none⟩ = some (.bool a0_0) := (blk_cell BK531.out 0).trans rfl
                  have hcz26_1 : wc.cell? ⟨gb531, 1, none⟩ = some (.int .i64 a0_1) := (blk_cell BK531.out 1).trans rfl
                  have hcz26_2 : wc.cell? ⟨gb531, 2, none⟩ = some (.bool a0_2) := (blk_cell BK531.out 2).trans rfl
                  have hcz26_3 : wc.cell? ⟨gb531, 3, none⟩ = some (.int .i64 a0_3) := (blk_cell BK531.out 3).trans rfl
                  have hcz26_4 : wc.cell? ⟨gb531, 4, none⟩ = some (.slice A0_4 l0_4.length c0_4) := (blk_cell BK531.out 4).trans rfl
                  have hfz26_0 := blk_frozen BK531.out 0
                  have hfz26_1 := blk_frozen BK531.out 1
                  have hfz26_2 := blk_frozen BK531.out 2
                  have hfz26_3 := blk_frozen BK531.out 3
                  have hfz26_4 := blk_frozen BK531.out 4
                  go_upto_region 13 with (first | ((with_reducible refine gate_callee (f := 17) rfl ?_); refine goesL_ (some 22) rfl rfl Try.func17 (by kernel_rfl) rfl #[.agg #[.bool a0_0, .int .i64 a0_1, .bool a0_2, .int .i64 a0_3, .slice A0_4 l0_4.length c0_4]] rfl (by (try simp only [List.map_toArray, List.map_cons, List.map_nil]); first | done | rfl | (simp only [List.length_drop, List.length_take]; rfl)) ?_; (with_reducible refine (frame_Head.calls a0_0 a0_1 a0_2 a0_3 _ _ l0_4 t535 _ ?side1 ?side2 A21.out).mono ?_); (case side1 => repeat (first | exact (Kd.C_below HR0_4.out HB.out) | (with_reducible refine Kd.C_alloc ?_ _) | (with_reducible refine Kd.C_drewN ?_ _) | (with_reducible refine Kd.C_drew ?_))); (case side2 => exact HC0_4.out); rintro e w27 ⟨v536, rfl, ho0, hb⟩; refine ⟨_, rfl, ?_⟩; have n0_ := Aside0.mk (Kd.R_lower ho0 (below_size (by repeat (first | (with_reducible first | exact HB.out | apply below_alloc | apply pw_below_drewN | apply below_drew1 | refine below_set ?_ GE531.out) | exact HB.out)))); have n1_ := Aside0.mk (blk_below (g := gb531) (o := .cells #[.bool a0_0, .int .i64 a0_1, .bool a0_2, .int .i64 a0_3, .slice A0_4 l0_4.length c0_4] 24 (0, 0)) (by (with_reducible repeat (first | refine blk_drewN ?_ _ | refine blk_drew ?_ | refine blk_alloc ?_ _)); exact BK531.out) hb); have n2_ := Aside0.mk (below_step (by repeat (first | (with_reducible first | exact HB.out | apply below_alloc | apply pw_below_drewN | apply below_drew1 | refine below_set ?_ GE531.out) | exact HB.out)) hb); clear BK531; clear HB; have HO537 := n0_; have BK531 := n1_; have HB := n2_; clear n0_ n1_ n2_; (try clear hb); (try clear hb2); (try clear hk); (try clear hi); (try clear ho0); obtain ⟨Ao28, co28, eo28⟩ := Kd.R_slice HO537.out; subst eo28; have hcz29_0 : w27.cell? ⟨gb531, 0, none⟩ = some (.bool a0_0) := (blk_cell BK531.out 0).trans rfl; have hcz29_1 : w27.cell? ⟨gb531, 1, none⟩ = some (.int .i64 a0_1) := (blk_cell BK531.out 1).trans rfl; have hcz29_2 : w27.cell? ⟨gb531, 2, none⟩ = some (.bool a0_2) := (blk_cell BK531.out 2).trans rfl; have hcz29_3 : w27.cell? ⟨gb531, 3, none⟩ = some (.int .i64 a0_3) := (blk_cell BK531.out 3).trans rfl; have hcz29_4 : w27.cell? ⟨gb531, 4, none⟩ = some (.slice A0_4 l0_4.length c0_4) := (blk_cell BK531.out 4).trans rfl; have hfz29_0 := blk_frozen BK531.out 0; have hfz29_1 := blk_frozen BK531.out 1; have hfz29_2 := blk_frozen BK531.out 2; have hfz29_3 := blk_frozen BK531.out 3; have hfz29_4 := blk_frozen BK531.out 4) | ((with_reducible refine gate_dst (N := 8) rfl ?_); (try (refine gate_guard (by rfl) ?_; dsimp only)); refine box_event ?hg (N := 8) ?hd (cs := #[.bool false, .int .i64 0, .bool false, .int .i64 0, .slice none 0 0]) (t := 24) ?hr ?_; (case hd => rfl); (case hg => rfl); (case hr => first | (go_simp; done) | (go_simp; rfl)); intro gb538 hg w30 hbox hb; have n0_ := Aside0.mk (Kd.R_below (by (with_reducible repeat (first | apply Kd.R_alloc | apply Kd.R_drewN | apply Kd.R_drew)); exact HO537.out) hb); have n1_ := Aside0.mk (blk_below (g := gb531) (o := .cells #[.bool a0_0, .int .i64 a0_1, .bool a0_2, .int .i64 a0_3, .slice A0_4 l0_4.length c0_4] 24 (0, 0)) (by (with_reducible repeat (first | refine blk_drewN ?_ _ | refine blk_drew ?_ | refine blk_alloc ?_ _)); exact BK531.out) hb); have n2_ := Aside0.mk (below_step (by repeat (first | (with_reducible first | exact HB.out | apply below_alloc | apply pw_below_drewN | apply below_drew1 | refine below_set ?_ GE531.out) | exact HB.out)) hb); have n3_ := Aside0.mk (hbox); have n4_ := Aside0.mk ((by rw [hg]; exact (below_size (by repeat (first | (with_reducible first | exact HB.out | apply below_alloc | apply pw_below_drewN | apply below_drew1 | refine below_set ?_ GE531.out) | exact HB.out))) : w.heap.size ≤ gb538)); have n5_ := Aside0.mk ((by rw [hg]; exact (below_size (by repeat (first | (with_reducible first | exact HB.out | apply below_alloc | apply pw_below_drewN | apply below_drew1 | refine below_set ?_ GE531.out) | exact HB.out))) : w.heap.size ≤ gb538)); have n6_ := Aside0.mk ((by rw [hg]; exact Nat.ne_of_lt (blk_lt (g := gb531) (o := .cells #[.bool a0_0, .int .i64 a0_1, .bool a0_2, .int .i64 a0_3, .slice A0_4 l0_4.length c0_4] 24 (0, 0)) (by (with_reducible repeat (first | refine blk_drewN ?_ _ | refine blk_drew ?_ | refine blk_alloc ?_ _)); exact BK531.out)) : gb531 ≠ gb538)); have n7_ := Aside0.mk ((by rw [hg]; exact Nat.ne_of_gt (blk_lt (g := gb531) (o := .cells #[.bool a0_0, .int .i64 a0_1, .bool a0_2, .int .i64 a0_3, .slice A0_4 l0_4.length c0_4] 24 (0, 0)) (by (with_reducible repeat (first | refine blk_drewN ?_ _ | refine blk_drew ?_ | refine blk_alloc ?_ _)); exact BK531.out)) : gb538 ≠ gb531)); clear HO537; clear BK531; clear HB; have HO537 := n0_; have BK531 := n1_; have HB := n2_; have BK538 := n3_; have GW538 := n4_; have GE538 := n5_; have NB531_538 := n6_; have NB538_531 := n7_; clear n0_ n1_ n2_ n3_ n4_ n5_ n6_ n7_; clear hb hbox hg; have hnb31 := NB538_531.out; have hnc31 := NB531_538.out; have hcz32_0 : w30.cell? ⟨gb538, 0, none⟩ = some (.bool false) := (blk_cell BK538.out 0).trans rfl; have hcz32_1 : w30.cell? ⟨gb538, 1, none⟩ = some (.int .i64 0) := (blk_cell BK538.out 1).trans rfl; have hcz32_2 : w30.cell? ⟨gb538, 2, none⟩ = some (.bool false) := (blk_cell BK538.out 2).trans rfl; have hcz32_3 : w30.cell? ⟨gb538, 3, none⟩ = some (.int .i64 0) := (blk_cell BK538.out 3).trans rfl; have hcz32_4 : w30.cell? ⟨gb538, 4, none⟩ = some (.slice none 0 0) := (blk_cell BK538.out 4).trans rfl; have hfz32_0 := blk_frozen BK538.out 0; have hfz32_1 := blk_frozen BK538.out 1; have hfz32_2 := blk_frozen BK538.out 2; have hfz32_3 := blk_frozen BK538.out 3; have hfz32_4 := blk_frozen BK538.out 4) | ((with_reducible refine gate_dst (N := 33) rfl ?_); (try (refine gate_guard (by rfl) ?_; dsimp only)); refine Kd.R_lit (Kd.int .u8) _ 5 ?hg (N := 33) ?hd (xs := ([] : List Int)) (inner := []) (ok := fun _ => True) (okp := fun _ => True) ?hr ?hp (fun _ hk => hk) trivial (Below.refl _ _) (Nat.le_refl _) (by simp) ?_; (case hd => rfl); (case hg => rfl); (case hr => first | (go_simp; done) | (go_simp; rfl)); (case hp => exact (Reps.none _ _)); intro v540 w33 ho34 hb hg_ hnew_; clear hg_ hnew_; (first | rw [← Ny539.out] at ho34 | (simp only [Int.reduceToNat] at ho34; rw [← Ny539.out] at ho34)); have n0_ := Aside0.mk (Kd.R_below (by (with_reducible repeat (first | apply Kd.R_alloc | apply Kd.R_drewN | apply Kd.R_drew)); exact (Kd.R_mono (Kd.R_far (p := ⟨gb538, 4, none⟩) (Kd.R_far (p := ⟨gb538, 3, none⟩) (Kd.R_far (p := ⟨gb538, 2, none⟩) (Kd.R_far (p := ⟨gb538, 1, none⟩) (Kd.R_far (p := ⟨gb538, 0, none⟩) (Kd.R_types HO537.out BK538.out (by decide)) (fun _ hk => hk.2) (.bool a0_0)) (fun _ hk => hk.2) (.int .i64 a0_1)) (fun _ hk => hk.2) (.bool a0_2)) (fun _ hk => hk.2) (.int .i64 a0_3)) (fun _ hk => hk.2) (.slice A0_4 l0_4.length c0_4)) (fun _ h_ => h_.1))) hb); have n1_ := Aside0.mk (Kd.R_lower ho34 (below_size (by repeat (first | (with_reducible first | exact HB.out | apply below_alloc | apply pw_below_drewN | apply below_drew1 | refine below_set ?_ GE531.out | refine below_set ?_ GE538.out) | exact HB.out)))); have n2_ := Aside0.mk (blk_below (g := gb531) (o := .cells #[.bool a0_0, .int .i64 a0_1, .bool a0_2, .int .i64 a0_3, .slice A0_4 l0_4.length c0_4] 24 (0, 0)) (by (with_reducible repeat (first | refine blk_drewN ?_ _ | refine blk_drew ?_ | refine blk_alloc ?_ _)); refine blk_far ?_ NB531_538.out _; (with_reducible repeat (first | refine blk_drewN ?_ _ | refine blk_drew ?_ | refine blk_alloc ?_ _)); refine blk_far ?_ NB531_538.out _; (with_reducible repeat (first | refine blk_drewN ?_ _ | refine blk_drew ?_ | refine blk_alloc ?_ _)); refine blk_far ?_ NB531_538.out _; (with_reducible repeat (first | refine blk_drewN ?_ _ | refine blk_drew ?_ | refine blk_alloc ?_ _)); refine blk_far ?_ NB531_538.out _; (with_reducible repeat (first | refine blk_drewN ?_ _ | refine blk_drew ?_ | refine blk_alloc ?_ _)); refine blk_far ?_ NB531_538.out _; (with_reducible repeat (first | refine blk_drewN ?_ _ | refine blk_drew ?_ | refine blk_alloc ?_ _)); exact BK531.out) hb); have n3_ := Aside0.mk (blk_below (g := gb538) (o := .cells #[.bool a0_0, .int .i64 a0_1, .bool a0_2, .int .i64 a0_3, .slice A0_4 l0_4.length c0_4] 24 (0, 0)) (by (with_reducible repeat (first | refine blk_drewN ?_ _ | refine blk_drew ?_ | refine blk_alloc ?_ _)); refine blk_put (cs := #[.bool a0_0, .int .i64 a0_1, .bool a0_2, .int .i64 a0_3, .slice none 0 0]) ?_ 4 _ rfl; (with_reducible repeat (first | refine blk_drewN ?_ _ | refine blk_drew ?_ | refine blk_alloc ?_ _)); refine blk_put (cs := #[.bool a0_0, .int .i64 a0_1, .bool a0_2, .int .i64 0, .slice none 0 0]) ?_ 3 _ rfl; (with_reducible repeat (first | refine blk_drewN ?_ _ | refine blk_drew ?_ | refine blk_alloc ?_ _)); refine blk_put (cs := #[.bool a0_0, .int .i64 a0_1, .bool false, .int .i64 0, .slice none 0 0]) ?_ 2 _ rfl; (with_reducible repeat (first | refine blk_drewN ?_ _ | refine blk_drew ?_ | refine blk_alloc ?_ _)); refine blk_put (cs := #[.bool a0_0, .int .i64 0, .bool false, .int .i64 0, .slice none 0 0]) ?_ 1 _ rfl; (with_reducible repeat (first | refine blk_drewN ?_ _ | refine blk_drew ?_ | refine blk_alloc ?_ _)); refine blk_put (cs := #[.bool false, .int .i64 0, .bool false, .int .i64 0, .slice none 0 0]) ?_ 0 _ rfl; (with_reducible repeat (first | refine blk_drewN ?_ _ | refine blk_drew ?_ | refine blk_alloc ?_ _)); exact BK538.out) hb); have n4_ := Aside0.mk (below_step (by repeat (first | (with_reducible first | exact HB.out | apply below_alloc | apply pw_below_drewN | apply below_drew1 | refine below_set ?_ GE531.out | refine below_set ?_ GE538.out) | exact HB.out)) hb); clear HO537; clear BK531; clear BK538; clear HB; have HO537 := n0_; have HO541 := n1_; have BK531 := n2_; have BK538 := n3_; have HB := n4_; clear n0_ n1_ n2_ n3_ n4_; clear hb ho34; have hcz35_0 : w33.cell? ⟨gb531, 0, none⟩ = some (.bool a0_0) := (blk_cell BK531.out 0).trans rfl; have hcz35_1 : w33.cell? ⟨gb531, 1, none⟩ = some (.int .i64 a0_1) := (blk_cell BK531.out 1).trans rfl; have hcz35_2 : w33.cell? ⟨gb531, 2, none⟩ = some (.bool a0_2) := (blk_cell BK531.out 2).trans rfl; have hcz35_3 : w33.cell? ⟨gb531, 3, none⟩ = some (.int .i64 a0_3) := (blk_cell BK531.out 3).trans rfl; have hcz35_4 : w33.cell? ⟨gb531, 4, none⟩ = some (.slice A0_4 l0_4.length c0_4) := (blk_cell BK531.out 4).trans rfl; have hfz35_0 := blk_frozen BK531.out 0; have hfz35_1 := blk_frozen BK531.out 1; have hfz35_2 := blk_frozen BK531.out 2; have hfz35_3 := blk_frozen BK531.out 3; have hfz35_4 := blk_frozen BK531.out 4) | ((with_reducible refine gate_builtin (b := .append) (xs := #[.tmp 33, .tmp 35]) rfl ?_); (try (refine gate_guard (by rfl) ?_; dsimp only)); at_builtin; refine Kd.R_append_rows (Kd.int .u8) (w0 := w) w.heap.size rfl (.tmp 33) (.tmp 35) 22 5 (.int .u8 0) 1 rfl Try.underlying22 info5 rfl (by decide) (by omega) v540 y539 l0_4 _ _ _ (fun _ => True) (fun _ => False) rfl rfl ?aO ?aR (fun _ _ h => h) (fun _ h => h.elim) ?aF ?aB ?aS ?aL ?_; (case aR => repeat (first | exact (Kd.C_below HR0_4.out HB.out) | (with_reducible refine Kd.C_alloc ?_ _) | (with_reducible refine Kd.C_drewN ?_ _) | (with_reducible refine Kd.C_drew ?_))); (case aB => exact (by repeat (first | (with_reducible first | exact HB.out | apply below_alloc | apply pw_below_drewN | apply below_drew1 | refine below_set ?_ GE531.out | refine below_set ?_ GE538.out) | exact HB.out))); (case aF => exact (fun _ _ => trivial)); (case aO => exact (by (with_reducible repeat (first | apply Kd.R_alloc | apply Kd.R_drewN | apply Kd.R_drew)); exact HO541.out)); (case aS => exact (below_size (by repeat (first | (with_reducible first | exact HB.out | apply below_alloc | apply pw_below_drewN | apply below_drew1 | refine below_set ?_ GE531.out | refine below_set ?_ GE538.out) | exact HB.out)))); (case aL => have := LMc23.out; omega); intro v543 w36 ho hb hg hat; rw [← Ny542.out] at ho; have n0_ := Aside0.mk (blk_grown (g := gb531) (o := .cells #[.bool a0_0, .int .i64 a0_1, .bool a0_2, .int .i64 a0_3, .slice A0_4 l0_4.length c0_4] 24 (0, 0)) (by (with_reducible repeat (first | refine blk_drewN ?_ _ | refine blk_drew ?_ | refine blk_alloc ?_ _)); exact BK531.out) hg (Kd.R_ne HO541.out BK531.out (by decide))); have n1_ := Aside0.mk (Kd.R_over' (by (with_reducible repeat (first | apply Kd.R_alloc | apply Kd.R_drewN | apply Kd.R_drew)); exact HO537.out) (Kd.R_typed (by (with_reducible repeat (first | apply Kd.R_alloc | apply Kd.R_drewN | apply Kd.R_drew)); exact HO541.out)) (by decide) hg); have n2_ := Aside0.mk (blk_grown (g := gb538) (o := .cells #[.bool a0_0, .int .i64 a0_1, .bool a0_2, .int .i64 a0_3, .slice A0_4 l0_4.length c0_4] 24 (0, 0)) (by (with_reducible repeat (first | refine blk_drewN ?_ _ | refine blk_drew ?_ | refine blk_alloc ?_ _)); exact BK538.out) hg (Kd.R_ne HO541.out BK538.out (by decide))); have n3_ := Aside0.mk (hb); have n4_ := Aside0.mk (ho); clear BK531; clear HO537; clear BK538; clear HB; clear HO541; have BK531 := n0_; have HO537 := n1_; have BK538 := n2_; have HB := n3_; have HO544 := n4_; clear n0_ n1_ n2_ n3_ n4_; clear ho hb hg hat) | ((with_reducible refine gate_builtin (b := .append) (xs := #[.tmp 36, .tmp 38]) rfl ?_); (try (refine gate_guard (by rfl) ?_; dsimp only)); at_builtin; refine Kd.R_append (Kd.int .u8) (w0 := w) w.heap.size rfl (.tmp 36) (.tmp 38) 22 5 (.int .u8 0) 1 rfl Try.underlying22 info5 rfl (by decide) (by omega) v543 y542 a1 [.int .u8 a1] (fun _ => True) (fun _ => False) rfl rfl ?aP (fun _ hk => hk.elim) ?aF ?aO ?aB ?aS ?aL ?_; (case aP => exact rfl); (case aB => exact (by repeat (first | (with_reducible first | exact HB.out | apply below_alloc | apply pw_below_drewN | apply below_drew1 | refine below_set ?_ GE531.out | refine below_set ?_ GE538.out) | exact HB.out))); (case aF => exact (fun _ _ => trivial)); (case aO => exact (by (with_reducible repeat (first | apply Kd.R_alloc | apply Kd.R_drewN | apply Kd.R_drew)); exact HO544.out)); (case aS => exact (below_size (by repeat (first | (with_reducible first | exact HB.out | apply below_alloc | apply pw_below_drewN | apply below_drew1 | refine below_set ?_ GE531.out | refine below_set ?_ GE538.out) | exact HB.out)))); (case aL => have := LMc24.out; omega); intro v546 w37 ho hb hg hat; rw [← Ny545.out] at ho; have n0_ := Aside0.mk (blk_grown (g := gb531) (o := .cells #[.bool a0_0, .int .i64 a0_1, .bool a0_2, .int .i64 a0_3, .slice A0_4 l0_4.length c0_4] 24 (0, 0)) (by (with_reducible repeat (first | refine blk_drewN ?_ _ | refine blk_drew ?_ | refine blk_alloc ?_ _)); exact BK531.out) hg (Kd.R_ne HO544.out BK531.out (by decide))); have n1_ := Aside0.mk (Kd.R_over' (by (with_reducible repeat (first | apply Kd.R_alloc | apply Kd.R_drewN | apply Kd.R_drew)); exact HO537.out) (Kd.R_typed (by (with_reducible repeat (first | apply Kd.R_alloc | apply Kd.R_drewN | apply Kd.R_drew)); exact HO544.out)) (by decide) hg); have n2_ := Aside0.mk (blk_grown (g := gb538) (o := .cells #[.bool a0_0, .int .i64 a0_1, .bool a0_2, .int .i64 a0_3, .slice A0_4 l0_4.length c0_4] 24 (0, 0)) (by (with_reducible repeat (first | refine blk_drewN ?_ _ | refine blk_drew ?_ | refine blk_alloc ?_ _)); exact BK538.out) hg (Kd.R_ne HO544.out BK538.out (by decide))); have n3_ := Aside0.mk (hb); have n4_ := Aside0.mk (ho); clear BK531; clear HO537; clear BK538; clear HB; clear HO544; have BK531 := n0_; have HO537 := n1_; have BK538 := n2_; have HB := n3_; have HO547 := n4_; clear n0_ n1_ n2_ n3_ n4_; clear ho hb hg hat; obtain ⟨Ao38, co38, eo38⟩ := Kd.R_slice HO547.out; subst eo38; have hcz39_0 : w37.cell? ⟨gb538, 0, none⟩ = some (.bool a0_0) := (blk_cell BK538.out 0).trans rfl; have hcz39_1 : w37.cell? ⟨gb538, 1, none⟩ = some (.int .i64 a0_1) := (blk_cell BK538.out 1).trans rfl; have hcz39_2 : w37.cell? ⟨gb538, 2, none⟩ = some (.bool a0_2) := (blk_cell BK538.out 2).trans rfl; have hcz39_3 : w37.cell? ⟨gb538, 3, none⟩ = some (.int .i64 a0_3) := (blk_cell BK538.out 3).trans rfl; have hcz39_4 : w37.cell? ⟨gb538, 4, none⟩ = some (.slice A0_4 l0_4.length c0_4) := (blk_cell BK538.out 4).trans rfl; have hfz39_0 := blk_frozen BK538.out 0; have hfz39_1 := blk_frozen BK538.out 1; have hfz39_2 := blk_frozen BK538.out 2; have hfz39_3 := blk_frozen BK538.out 3; have hfz39_4 := blk_frozen BK538.out 4; have hcz40_0 : w37.cell? ⟨gb531, 0, none⟩ = some (.bool a0_0) := (blk_cell BK531.out 0).trans rfl; have hcz40_1 : w37.cell? ⟨gb531, 1, none⟩ = some (.int .i64 a0_1) := (blk_cell BK531.out 1).trans rfl; have hcz40_2 : w37.cell? ⟨gb531, 2, none⟩ = some (.bool a0_2) := (blk_cell BK531.out 2).trans rfl; have hcz40_3 : w37.cell? ⟨gb531, 3, none⟩ = some (.int .i64 a0_3) := (blk_cell BK531.out 3).trans rfl; have hcz40_4 : w37.cell? ⟨gb531, 4, none⟩ = some (.slice A0_4 l0_4.length c0_4) := (blk_cell BK531.out 4).trans rfl; have hfz40_0 := blk_frozen BK531.out 0; have hfz40_1 := blk_frozen BK531.out 1; have hfz40_2 := blk_frozen BK531.out 2; have hfz40_3 := blk_frozen BK531.out 3; have hfz40_4 := blk_frozen BK531.out 4))
                  (try simp only [Act.put, List.setIfInBounds_toArray, List.set_cons_zero, List.set_cons_succ])
                  go_cut [55] (fun v55 wc => ∃ (kq : Nat) (x55_24 : Bool), v55 = .bool x55_24 ∧ Aside0 (phaetonlaw04_FrameLengths.j2 kq t532 x6_17 t535 x55_24 a0_0 a0_1 a0_2 a0_3 l0_4 a0_0 a0_1 a0_2 (wrap64 (a0_3 + 1)) y545 = some r) ∧ Aside0 (kq ≤ kj17) ∧ Aside0 (Kd.R (Kd.int .i64) 3 wc w.heap.size (fun _ => True) (.slice Ao28 t535.length co28) t535) ∧ Aside0 (Kd.R (Kd.int .u8) 5 wc w.heap.size (fun _ => True) (.slice Ao38 y545.length co38) y545) ∧ Aside0 (wc.heap[gb531]? = some (.cells #[.bool a0_0, .int .i64 a0_1, .bool a0_2, .int .i64 a0_3, (.slice A0_4 l0_4.length c0_4)] 24 (0, 0))) ∧ Aside0 (wc.heap[gb538]? = some (.cells #[.bool a0_0, .int .i64 a0_1, .bool a0_2, .int .i64 (wrap64 (a0_3 + 1)), (.slice Ao38 y545.length co38)] 24 (0, 0))) ∧ Aside0 (Below w.heap.size w wc))
                  case first =>
                    have H := HC25.out
                    clear HC25
                    replace H := Option.bind_eq_some_iff.mp H
                    obtain ⟨t548, A410, H⟩ := H
                    replace H : (if a0_2 = true then (phaetonlaw04_FrameLengths.j2 kj17 t532 x6_17 t535 (t548 != false) a0_0 a0_1 a0_2 a0_3 l0_4 a0_0 a0_1 a0_2 (wrap64 (a0_3 + 1)) y545) else (phaetonlaw04_FrameLengths.j2 kj17 t532 x6_17 t535 (t548 != (decide (a0_3 < 8))) a0_0 a0_1 a0_2 a0_3 l0_4 a0_0 a0_1 a0_2 (wrap64 (a0_3 + 1)) y545)) = some r := H
                    have A41 := Aside0.mk A410
                    clear A410
                    by_cases c42 : a0_2 = true
                    · subst c42
                      have H1 : (phaetonlaw04_FrameLengths.j2 kj17 t532 x6_17 t535 (t548 != false) a0_0 a0_1 true a0_3 l0_4 a0_0 a0_1 true (wrap64 (a0_3 + 1)) y545) = some r := by rw [if_pos rfl] at H; exact H
                      clear H
                      have H := H1
                      clear H1
                      have H' := Aside0.mk H
                      clear H
                      try go_wp2
                      have n0_ : Aside0 (Kd.R (Kd.int .i64) 3 ((w37.setCell ⟨gb538, 4, none⟩ (.slice Ao38 y545.length co38)).setCell ⟨gb538, 3, none⟩ (.int .i64 (wrap64 (a0_3 + 1)))) w.heap.size (fun _ => True) (.slice Ao28 t535.length co28) t535) := ⟨by (with_reducible repeat (first | apply Kd.R_alloc | apply Kd.R_drewN | apply Kd.R_drew)); exact Kd.R_mono (Kd.R_far (p := ⟨gb538, 3, none⟩) (Kd.R_far (p := ⟨gb538, 4, none⟩) (Kd.R_types HO537.out BK538.out (by decide)) (fun _ hk => hk.2) (.slice Ao38 y545.length co38)) (fun _ hk => hk.2) (.int .i64 (wrap64 (a0_3 + 1)))) (fun _ hk => trivial)⟩
                      have n1_ : Aside0 (Kd.R (Kd.int .u8) 5 ((w37.setCell ⟨gb538, 4, none⟩ (.slice Ao38 y545.length co38)).setCell ⟨gb538, 3, none⟩ (.int .i64 (wrap64 (a0_3 + 1)))) w.heap.size (fun _ => True) (.slice Ao38 y545.length co38) y545) := ⟨by (with_reducible repeat (first | apply Kd.R_alloc | apply Kd.R_drewN | apply Kd.R_drew)); exact Kd.R_mono (Kd.R_far (p := ⟨gb538, 3, none⟩) (Kd.R_far (p := ⟨gb538, 4, none⟩) (Kd.R_types HO547.out BK538.out (by decide)) (fun _ hk => hk.2) (.slice Ao38 y545.length co38)) (fun _ hk => hk.2) (.int .i64 (wrap64 (a0_3 + 1)))) (fun _ hk => trivial)⟩
                      have n2_ : Aside0 (((w37.setCell ⟨gb538, 4, none⟩ (.slice Ao38 y545.length co38)).setCell ⟨gb538, 3, none⟩ (.int .i64 (wrap64 (a0_3 + 1)))).heap[gb531]? = some (.cells #[.bool a0_0, .int .i64 a0_1, .bool true, .int .i64 a0_3, .slice A0_4 l0_4.length c0_4] 24 (0, 0))) := ⟨by (with_reducible repeat (first | refine blk_drewN ?_ _ | refine blk_drew ?_ | refine blk_alloc ?_ _)); refine blk_far ?_ NB531_538.out _; (with_reducible repeat (first | refine blk_drewN ?_ _ | refine blk_drew ?_ | refine blk_alloc ?_ _)); refine blk_far ?_ NB531_538.out _; (with_reducible repeat (first | refine blk_drewN ?_ _ | refine blk_drew ?_ | refine blk_alloc ?_ _)); exact BK531.out⟩
                      have n3_ : Aside0 (((w37.setCell ⟨gb538, 4, none⟩ (.slice Ao38 y545.length co38)).setCell ⟨gb538, 3, none⟩ (.int .i64 (wrap64 (a0_3 + 1)))).heap[gb538]? = some (.cells #[.bool a0_0, .int .i64 a0_1, .bool true, .int .i64 (wrap64 (a0_3 + 1)), .slice Ao38 y545.length co38] 24 (0, 0))) := ⟨by (with_reducible repeat (first | refine blk_drewN ?_ _ | refine blk_drew ?_ | refine blk_alloc ?_ _)); refine blk_put (cs := #[.bool a0_0, .int .i64 a0_1, .bool true, .int .i64 a0_3, .slice Ao38 y545.length co38]) ?_ 3 _ rfl; (with_reducible repeat (first | refine blk_drewN ?_ _ | refine blk_drew ?_ | refine blk_alloc ?_ _)); refine blk_put (cs := #[.bool a0_0, .int .i64 a0_1, .bool true, .int .i64 a0_3, .slice A0_4 l0_4.length c0_4]) ?_ 4 _ rfl; (with_reducible repeat (first | refine blk_drewN ?_ _ | refine blk_drew ?_ | refine blk_alloc ?_ _)); exact BK538.out⟩
                      have n4_ : Aside0 (Below w.heap.size w ((w37.setCell ⟨gb538, 4, none⟩ (.slice Ao38 y545.length co38)).setCell ⟨gb538, 3, none⟩ (.int .i64 (wrap64 (a0_3 + 1))))) := ⟨by repeat (first | (with_reducible first | exact HB.out | apply below_alloc | apply pw_below_drewN | apply below_drew1 | refine below_set ?_ GE531.out | refine below_set ?_ GE538.out) | exact HB.out)⟩
                      (try clear HO537)
                      (try clear HO547)
                      (try clear BK531)
                      (try clear BK538)
                      (try clear HB)
                      generalize ((w37.setCell ⟨gb538, 4, none⟩ (.slice Ao38 y545.length co38)).setCell ⟨gb538, 3, none⟩ (.int .i64 (wrap64 (a0_3 + 1)))) = w43 at n0_ n1_ n2_ n3_ n4_ ⊢
                      have HO537 := n0_
                      have HO547 := n1_
                      have BK531 := n2_
                      have BK538 := n3_
                      have HB := n4_
                      clear n0_ n1_ n2_ n3_ n4_
                      have n0_ := Aside0.mk (Kd.R_drew HO537.out)
                      have n1_ := Aside0.mk (Kd.R_drew HO547.out)
                      have n2_ := Aside0.mk (blk_drew BK531.out)
                      have n3_ := Aside0.mk (blk_drew BK538.out)
                      have n4_ := Aside0.mk (below_drew1 HB.out)
                      clear HO537
                      clear HO547
                      clear BK531
                      clear BK538
                      clear HB
                      have HO537 := n0_
                      have HO547 := n1_
                      have BK531 := n2_
                      have BK538 := n3_
                      have HB := n4_
                      clear n0_ n1_ n2_ n3_ n4_
                      refine start_ (n := 11) (S := fun w' => w'.cell? ⟨gb538, 0, none⟩ = some (.bool a0_0) ∧ w'.cell? ⟨gb538, 1, none⟩ = some (.int .i64 a0_1) ∧ w'.cell? ⟨gb538, 2, none⟩ = some (.bool true) ∧ w'.cell? ⟨gb538, 3, none⟩ = some (.int .i64 (wrap64 (a0_3 + 1))) ∧ w'.cell? ⟨gb538, 4, none⟩ = some (.slice Ao38 y545.length co38) ∧ w'.cell? ⟨gb531, 0, none⟩ = some (.bool a0_0) ∧ w'.cell? ⟨gb531, 1, none⟩ = some (.int .i64 a0_1) ∧ w'.cell? ⟨gb531, 2, none⟩ = some (.bool true) ∧ w'.cell? ⟨gb531, 3, none⟩ = some (.int .i64 a0_3) ∧ w'.cell? ⟨gb531, 4, none⟩ = some (.slice A0_4 l0_4.length c0_4)) (ds := []) #[false, false, false, false, false, false, false, false, false, false, false] (by kernel_rfl) rfl rfl ⟨(blk_cell BK538.out 0).trans rfl, (blk_cell BK538.out 1).trans rfl, (blk_cell BK538.out 2).trans rfl, (blk_cell BK538.out 3).trans rfl, (blk_cell BK538.out 4).trans rfl, (blk_cell BK531.out 0).trans rfl, (blk_cell BK531.out 1).trans rfl, (blk_cell BK531.out 2).trans rfl, (blk_cell BK531.out 3).trans rfl, (blk_cell BK531.out 4).trans rfl⟩ (fun hHeld => ?_); refine with_tabW phaetonlaw04_FrameLengths.tab13 phaetonlaw04_FrameLengths.bits13 (fun HT_ HW_ => ?_)
                      generalize w43.drew = w44 at HO537 HO547 BK531 BK538 HB hHeld ⊢
                      refine pure_ (i := 2) (N := some 47) (v := ?_) (a' := ?_) #[false, false, true, false, false, false, false, false, false, false, false] rfl rfl (any_of HT_.out (by kernel_rfl)) (fun _ _ _ h => h) (Or.inl ⟨by rfl, ?_⟩) ?_ ?_
                      rotate_left
                      · intro w'
                        go_simp
                        with_reducible rfl
                      rotate_left
                      · simp only [Act.put, List.setIfInBounds_toArray, List.set_cons_zero, List.set_cons_succ, i64_w, i32_w]
                        rfl
                      refine take_ (i := 0) (N := some 45) (v := ?_) (a' := ?_) #[true, false, true, false, false, false, false, false, false, false, false] rfl rfl (take_ofW HT_.out HW_.out (by kernel_rfl)) (fun _ _ _ h => h) (Or.inl ⟨by rfl, ?_⟩) hHeld ?_ ?_
                      rotate_left
                      · rintro w' ⟨s0, s1, s2, s3, s4, s5, s6, s7, s8, s9⟩
                        go_simp
                        with_reducible rfl
                      rotate_left
                      · simp only [Act.put, List.setIfInBounds_toArray, List.set_cons_zero, List.set_cons_succ, i64_w, i32_w]
                        rfl
                      refine take_ (i := 3) (N := some 48) (v := ?_) (a' := ?_) #[true, false, true, true, false, false, false, false, false, false, false] rfl rfl (take_ofW HT_.out HW_.out (by kernel_rfl)) (fun _ _ _ h => h) (Or.inl ⟨by rfl, ?_⟩) hHeld ?_ ?_
                      rotate_left
                      · rintro w' ⟨s0, s1, s2, s3, s4, s5, s6, s7, s8, s9⟩
                        go_simp
                        with_reducible rfl
                      rotate_left
                      · simp only [Act.put, List.setIfInBounds_toArray, List.set_cons_zero, List.set_cons_succ, i64_w, i32_w]
                        rfl
                      refine pure_ (i := 4) (N := some 49) (v := ?_) (a' := ?_) #[true, false, true, true, true, false, false, false, false, false, false] rfl rfl (any_of HT_.out (by kernel_rfl)) (fun _ _ _ h => h) (Or.inl ⟨by rfl, ?_⟩) ?_ ?_
                      rotate_left
                      · intro w'
                        go_simp
                        with_reducible rfl
                      rotate_left
                      · simp only [Act.put, List.setIfInBounds_toArray, List.set_cons_zero, List.set_cons_succ, i64_w, i32_w]
                        rfl
                      refine one_ (i := 1) (N := some 46) #[true, true, true, true, true, false, false, false, false, false, false] rfl rfl (one_of HT_.out (by kernel_rfl)) (by decide) (fun K hK => ?_)
                      refine goes_ Try.func12 (by kernel_rfl) rfl #[.agg #[.bool a0_0, .int .i64 a0_1, .bool true, .int .i64 (wrap64 (a0_3 + 1)), .slice Ao38 y545.length co38]] (by rfl) rfl rfl (by (try simp only [List.map_toArray, List.map_cons, List.map_nil]); first | done | rfl | (simp only [List.length_drop, List.length_take]; rfl)) ?_
                      with_reducible refine (frame_Right.calls a0_0 a0_1 true (wrap64 (a0_3 + 1)) _ _ y545 t548 _ ?side1 ?side2 A41.out).mono ?_
                      (case side1 => repeat (first | exact (Kd.R_reads' HO547.out).2.2 | (with_reducible refine Kd.C_alloc ?_ _) | (with_reducible refine Kd.C_drewN ?_ _) | (with_reducible refine Kd.C_drew ?_)))
                      (case side2 => exact (Kd.R_reads' HO547.out).2.1)
                      rintro e w45 ⟨rfl, hb⟩
                      refine ⟨_, rfl, ?_⟩
                      have n0_ := Aside0.mk (Kd.R_below (by (with_reducible repeat (first | apply Kd.R_alloc | apply Kd.R_drewN | apply Kd.R_drew)); exact HO537.out) hb)
                      have n1_ := Aside0.mk (Kd.R_below (by (with_reducible repeat (first | apply Kd.R_alloc | apply Kd.R_drewN | apply Kd.R_drew)); exact HO547.out) hb)
                      have n2_ := Aside0.mk (blk_below (g := gb531) (o := .cells #[.bool a0_0, .int .i64 a0_1, .bool true, .int .i64 a0_3, .slice A0_4 l0_4.length c0_4] 24 (0, 0)) (by (with_reducible repeat (first | refine blk_drewN ?_ _ | refine blk_drew ?_ | refine blk_alloc ?_ _)); exact BK531.out) hb)
                      have n3_ := Aside0.mk (blk_below (g := gb538) (o := .cells #[.bool a0_0, .int .i64 a0_1, .bool true, .int .i64 (wrap64 (a0_3 + 1)), .slice Ao38 y545.length co38] 24 (0, 0)) (by (with_reducible repeat (first | refine blk_drewN ?_ _ | refine blk_drew ?_ | refine blk_alloc ?_ _)); exact BK538.out) hb)
                      have n4_ := Aside0.mk (below_step (by repeat (first | (with_reducible first | exact HB.out | apply below_alloc | apply pw_below_drewN | apply below_drew1 | refine below_set ?_ GE531.out | refine below_set ?_ GE538.out) | exact HB.out)) hb)
                      clear HO537
                      clear HO547
                      clear BK531
                      clear BK538
                      clear HB
                      have HO537 := n0_
                      have HO547 := n1_
                      have BK531 := n2_
                      have BK538 := n3_
                      have HB := n4_
                      clear n0_ n1_ n2_ n3_ n4_
                      (try clear hb)
                      (try clear hb2)
                      (try clear hk)
                      (try clear hi)
                      refine hK.out _ _ ⟨(blk_cell BK538.out 0).trans rfl, (blk_cell BK538.out 1).trans rfl, (blk_cell BK538.out 2).trans rfl, (blk_cell BK538.out 3).trans rfl, (blk_cell BK538.out 4).trans rfl, (blk_cell BK531.out 0).trans rfl, (blk_cell BK531.out 1).trans rfl, (blk_cell BK531.out 2).trans rfl, (blk_cell BK531.out 3).trans rfl, (blk_cell BK531.out 4).trans rfl⟩ (fun hHeld => ?_)
                      clear hK K
                      refine norm_ (a' := ?_) ?_ ?_
                      rotate_left
                      · show Act.put _ (some 46) _ = _
                        simp only [Act.put, List.setIfInBounds_toArray, List.set_cons_zero, List.set_cons_succ, i64_w, i32_w]
                        rfl
                      refine pure_ (i := 5) (N := some 50) (v := ?_) (a' := ?_) #[true, true, true, true, true, true, false, false, false, false, false] rfl rfl (any_of HT_.out (by kernel_rfl)) (fun _ _ _ h => h) (Or.inl ⟨by rfl, ?_⟩) ?_ ?_
                      rotate_left
                      · intro w'
                        go_simp
                        with_reducible rfl
                      rotate_left
                      · simp only [Act.put, List.setIfInBounds_toArray, List.set_cons_zero, List.set_cons_succ, i64_w, i32_w]
                        rfl
                      refine pure_ (i := 6) (N := some 51) (v := undef) (a' := ?_) #[true, true, true, true, true, true, true, false, false, false, false] rfl rfl (any_of HT_.out (by kernel_rfl)) (fun _ _ _ h => h) (Or.inr ⟨by rfl, rfl⟩) ?_ ?_
                      rotate_left
                      · simp only [Act.put, List.setIfInBounds_toArray, List.set_cons_zero, List.set_cons_succ, i64_w, i32_w]
                        rfl
                      refine pure_ (i := 7) (N := some 52) (v := undef) (a' := ?_) #[true, true, true, true, true, true, true, true, false, false, false] rfl rfl (any_of HT_.out (by kernel_rfl)) (fun _ _ _ h => h) (Or.inr ⟨by rfl, rfl⟩) ?_ ?_
                      rotate_left
                      · simp only [Act.put, List.setIfInBounds_toArray, List.set_cons_zero, List.set_cons_succ, i64_w, i32_w]
                        rfl
                      refine pure_ (i := 8) (N := some 53) (v := undef) (a' := ?_) #[true, true, true, true, true, true, true, true, true, false, false] rfl rfl (any_of HT_.out (by kernel_rfl)) (fun _ _ _ h => h) (Or.inr ⟨by rfl, rfl⟩) ?_ ?_
                      rotate_left
                      · simp only [Act.put, List.setIfInBounds_toArray, List.set_cons_zero, List.set_cons_succ, i64_w, i32_w]
                        rfl
                      refine pure_ (i := 9) (N := some 54) (v := ?_) (a' := ?_) #[true, true, true, true, true, true, true, true, true, true, false] rfl rfl (any_of HT_.out (by kernel_rfl)) (fun _ _ _ h => h) (Or.inl ⟨by rfl, ?_⟩) ?_ ?_
                      rotate_left
                      · intro w'
                        go_simp
                        with_reducible rfl
                      rotate_left
                      · simp only [Act.put, List.setIfInBounds_toArray, List.set_cons_zero, List.set_cons_succ, i64_w, i32_w]
                        rfl
                      refine pure_ (i := 10) (N := some 55) (v := ?_) (a' := ?_) #[true, true, true, true, true, true, true, true, true, true, true] rfl rfl (any_of HT_.out (by kernel_rfl)) (fun _ _ _ h => h) (Or.inl ⟨by rfl, ?_⟩) ?_ ?_
                      rotate_left
                      · intro w'
                        go_simp
                        with_reducible rfl
                      rotate_left
                      · simp only [Act.put, List.setIfInBounds_toArray, List.set_cons_zero, List.set_cons_succ, i64_w, i32_w]
                        rfl
                      refine done_ (done_of HT_.out (by kernel_rfl)) ?_
                      try go_wp2
                      go_meet
                      case rel => exact ⟨_, ((t548 != false)), (by first | rfl | (simp; done) | (simp [*]; done)), H', ⟨by have := HJ3.out; have := HJ17.out; first | omega | exact Nat.le_refl _⟩, ⟨by (with_reducible repeat (first | apply Kd.R_alloc | apply Kd.R_drewN | apply Kd.R_drew)); exact HO537.out⟩, ⟨by (with_reducible repeat (first | apply Kd.R_alloc | apply Kd.R_drewN | apply Kd.R_drew)); exact HO547.out⟩, ⟨by (with_reducible repeat (first | refine blk_drewN ?_ _ | refine blk_drew ?_ | refine blk_alloc ?_ _)); exact BK531.out⟩, ⟨by (with_reducible repeat (first | refine blk_drewN ?_ _ | refine blk_drew ?_ | refine blk_alloc ?_ _)); exact BK538.out⟩, ⟨by repeat (first | (with_reducible first | exact HB.out | apply below_alloc | apply pw_below_drewN | apply below_drew1 | refine below_set ?_ GE531.out | refine below_set ?_ GE538.out) | exact HB.out)⟩⟩
                    · replace c42 := Bool.eq_false_iff.mpr c42
                      subst c42
                      have H1 : (phaetonlaw04_FrameLengths.j2 kj17 t532 x6_17 t535 (t548 != (decide (a0_3 < 8))) a0_0 a0_1 false a0_3 l0_4 a0_0 a0_1 false (wrap64 (a0_3 + 1)) y545) = some r := by rw [if_neg (show ¬ (false = true) by decide)] at H; exact H
                      clear H
                      have H := H1
                      clear H1
                      have H' := Aside0.mk H
                      clear H
                      try go_wp2
                      have n0_ : Aside0 (Kd.R (Kd.int .i64) 3 ((w37.setCell ⟨gb538, 4, none⟩ (.slice Ao38 y545.length co38)).setCell ⟨gb538, 3, none⟩ (.int .i64 (wrap64 (a0_3 + 1)))) w.heap.size (fun _ => True) (.slice Ao28 t535.length co28) t535) := ⟨by (with_reducible repeat (first | apply Kd.R_alloc | apply Kd.R_drewN | apply Kd.R_drew)); exact Kd.R_mono (Kd.R_far (p := ⟨gb538, 3, none⟩) (Kd.R_far (p := ⟨gb538, 4, none⟩) (Kd.R_types HO537.out BK538.out (by decide)) (fun _ hk => hk.2) (.slice Ao38 y545.length co38)) (fun _ hk => hk.2) (.int .i64 (wrap64 (a0_3 + 1)))) (fun _ hk => trivial)⟩
                      have n1_ : Aside0 (Kd.R (Kd.int .u8) 5 ((w37.setCell ⟨gb538, 4, none⟩ (.slice Ao38 y545.length co38)).setCell ⟨gb538, 3, none⟩ (.int .i64 (wrap64 (a0_3 + 1)))) w.heap.size (fun _ => True) (.slice Ao38 y545.length co38) y545) := ⟨by (with_reducible repeat (first | apply Kd.R_alloc | apply Kd.R_drewN | apply Kd.R_drew)); exact Kd.R_mono (Kd.R_far (p := ⟨gb538, 3, none⟩) (Kd.R_far (p := ⟨gb538, 4, none⟩) (Kd.R_types HO547.out BK538.out (by decide)) (fun _ hk => hk.2) (.slice Ao38 y545.length co38)) (fun _ hk => hk.2) (.int .i64 (wrap64 (a0_3 + 1)))) (fun _ hk => trivial)⟩
                      have n2_ : Aside0 (((w37.setCell ⟨gb538, 4, none⟩ (.slice Ao38 y545.length co38)).setCell ⟨gb538, 3, none⟩ (.int .i64 (wrap64 (a0_3 + 1)))).heap[gb531]? = some (.cells #[.bool a0_0, .int .i64 a0_1, .bool false, .int .i64 a0_3, .slice A0_4 l0_4.length c0_4] 24 (0, 0))) := ⟨by (with_reducible repeat (first | refine blk_drewN ?_ _ | refine blk_drew ?_ | refine blk_alloc ?_ _)); refine blk_far ?_ NB531_538.out _; (with_reducible repeat (first | refine blk_drewN ?_ _ | refine blk_drew ?_ | refine blk_alloc ?_ _)); refine blk_far ?_ NB531_538.out _; (with_reducible repeat (first | refine blk_drewN ?_ _ | refine blk_drew ?_ | refine blk_alloc ?_ _)); exact BK531.out⟩
                      have n3_ : Aside0 (((w37.setCell ⟨gb538, 4, none⟩ (.slice Ao38 y545.length co38)).setCell ⟨gb538, 3, none⟩ (.int .i64 (wrap64 (a0_3 + 1)))).heap[gb538]? = some (.cells #[.bool a0_0, .int .i64 a0_1, .bool false, .int .i64 (wrap64 (a0_3 + 1)), .slice Ao38 y545.length co38] 24 (0, 0))) := ⟨by (with_reducible repeat (first | refine blk_drewN ?_ _ | refine blk_drew ?_ | refine blk_alloc ?_ _)); refine blk_put (cs := #[.bool a0_0, .int .i64 a0_1, .bool false, .int .i64 a0_3, .slice Ao38 y545.length co38]) ?_ 3 _ rfl; (with_reducible repeat (first | refine blk_drewN ?_ _ | refine blk_drew ?_ | refine blk_alloc ?_ _)); refine blk_put (cs := #[.bool a0_0, .int .i64 a0_1, .bool false, .int .i64 a0_3, .slice A0_4 l0_4.length c0_4]) ?_ 4 _ rfl; (with_reducible repeat (first | refine blk_drewN ?_ _ | refine blk_drew ?_ | refine blk_alloc ?_ _)); exact BK538.out⟩
                      have n4_ : Aside0 (Below w.heap.size w ((w37.setCell ⟨gb538, 4, none⟩ (.slice Ao38 y545.length co38)).setCell ⟨gb538, 3, none⟩ (.int .i64 (wrap64 (a0_3 + 1))))) := ⟨by repeat (first | (with_reducible first | exact HB.out | apply below_alloc | apply pw_below_drewN | apply below_drew1 | refine below_set ?_ GE531.out | refine below_set ?_ GE538.out) | exact HB.out)⟩
                      (try clear HO537)
                      (try clear HO547)
                      (try clear BK531)
                      (try clear BK538)
                      (try clear HB)
                      generalize ((w37.setCell ⟨gb538, 4, none⟩ (.slice Ao38 y545.length co38)).setCell ⟨gb538, 3, none⟩ (.int .i64 (wrap64 (a0_3 + 1)))) = w46 at n0_ n1_ n2_ n3_ n4_ ⊢
                      have HO537 := n0_
                      have HO547 := n1_
                      have BK531 := n2_
                      have BK538 := n3_
                      have HB := n4_
                      clear n0_ n1_ n2_ n3_ n4_
                      have n0_ := Aside0.mk (Kd.R_drew HO537.out)
                      have n1_ := Aside0.mk (Kd.R_drew HO547.out)
                      have n2_ := Aside0.mk (blk_drew BK531.out)
                      have n3_ := Aside0.mk (blk_drew BK538.out)
                      have n4_ := Aside0.mk (below_drew1 HB.out)
                      clear HO537
                      clear HO547
                      clear BK531
                      clear BK538
                      clear HB
                      have HO537 := n0_
                      have HO547 := n1_
                      have BK531 := n2_
                      have BK538 := n3_
                      have HB := n4_
                      clear n0_ n1_ n2_ n3_ n4_
                      refine start_ (n := 11) (S := fun w' => w'.cell? ⟨gb538, 0, none⟩ = some (.bool a0_0) ∧ w'.cell? ⟨gb538, 1, none⟩ = some (.int .i64 a0_1) ∧ w'.cell? ⟨gb538, 2, none⟩ = some (.bool false) ∧ w'.cell? ⟨gb538, 3, none⟩ = some (.int .i64 (wrap64 (a0_3 + 1))) ∧ w'.cell? ⟨gb538, 4, none⟩ = some (.slice Ao38 y545.length co38) ∧ w'.cell? ⟨gb531, 0, none⟩ = some (.bool a0_0) ∧ w'.cell? ⟨gb531, 1, none⟩ = some (.int .i64 a0_1) ∧ w'.cell? ⟨gb531, 2, none⟩ = some (.bool false) ∧ w'.cell? ⟨gb531, 3, none⟩ = some (.int .i64 a0_3) ∧ w'.cell? ⟨gb531, 4, none⟩ = some (.slice A0_4 l0_4.length c0_4)) (ds := []) #[false, false, false, false, false, false, false, false, false, false, false] (by kernel_rfl) rfl rfl ⟨(blk_cell BK538.out 0).trans rfl, (blk_cell BK538.out 1).trans rfl, (blk_cell BK538.out 2).trans rfl, (blk_cell BK538.out 3).trans rfl, (blk_cell BK538.out 4).trans rfl, (blk_cell BK531.out 0).trans rfl, (blk_cell BK531.out 1).trans rfl, (blk_cell BK531.out 2).trans rfl, (blk_cell BK531.out 3).trans rfl, (blk_cell BK531.out 4).trans rfl⟩ (fun hHeld => ?_); refine with_tabW phaetonlaw04_FrameLengths.tab13 phaetonlaw04_FrameLengths.bits13 (fun HT_ HW_ => ?_)
                      generalize w46.drew = w47 at HO537 HO547 BK531 BK538 HB hHeld ⊢
                      refine pure_ (i := 2) (N := some 47) (v := ?_) (a' := ?_) #[false, false, true, false, false, false, false, false, false, false, false] rfl rfl (any_of HT_.out (by kernel_rfl)) (fun _ _ _ h => h) (Or.inl ⟨by rfl, ?_⟩) ?_ ?_
                      rotate_left
                      · intro w'
                        go_simp
                        with_reducible rfl
                      rotate_left
                      · simp only [Act.put, List.setIfInBounds_toArray, List.set_cons_zero, List.set_cons_succ, i64_w, i32_w]
                        rfl
                      refine take_ (i := 0) (N := some 45) (v := ?_) (a' := ?_) #[true, false, true, false, false, false, false, false, false, false, false] rfl rfl (take_ofW HT_.out HW_.out (by kernel_rfl)) (fun _ _ _ h => h) (Or.inl ⟨by rfl, ?_⟩) hHeld ?_ ?_
                      rotate_left
                      · rintro w' ⟨s0, s1, s2, s3, s4, s5, s6, s7, s8, s9⟩
                        go_simp
                        with_reducible rfl
                      rotate_left
                      · simp only [Act.put, List.setIfInBounds_toArray, List.set_cons_zero, List.set_cons_succ, i64_w, i32_w]
                        rfl
                      refine take_ (i := 3) (N := some 48) (v := ?_) (a' := ?_) #[true, false, true, true, false, false, false, false, false, false, false] rfl rfl (take_ofW HT_.out HW_.out (by kernel_rfl)) (fun _ _ _ h => h) (Or.inl ⟨by rfl, ?_⟩) hHeld ?_ ?_
                      rotate_left
                      · rintro w' ⟨s0, s1, s2, s3, s4, s5, s6, s7, s8, s9⟩
                        go_simp
                        with_reducible rfl
                      rotate_left
                      · simp only [Act.put, List.setIfInBounds_toArray, List.set_cons_zero, List.set_cons_succ, i64_w, i32_w]
                        rfl
                      refine pure_ (i := 4) (N := some 49) (v := ?_) (a' := ?_) #[true, false, true, true, true, false, false, false, false, false, false] rfl rfl (any_of HT_.out (by kernel_rfl)) (fun _ _ _ h => h) (Or.inl ⟨by rfl, ?_⟩) ?_ ?_
                      rotate_left
                      · intro w'
                        go_simp
                        with_reducible rfl
                      rotate_left
                      · simp only [Act.put, List.setIfInBounds_toArray, List.set_cons_zero, List.set_cons_succ, i64_w, i32_w]
                        rfl
                      refine one_ (i := 1) (N := some 46) #[true, true, true, true, true, false, false, false, false, false, false] rfl rfl (one_of HT_.out (by kernel_rfl)) (by decide) (fun K hK => ?_)
                      refine goes_ Try.func12 (by kernel_rfl) rfl #[.agg #[.bool a0_0, .int .i64 a0_1, .bool false, .int .i64 (wrap64 (a0_3 + 1)), .slice Ao38 y545.length co38]] (by rfl) rfl rfl (by (try simp only [List.map_toArray, List.map_cons, List.map_nil]); first | done | rfl | (simp only [List.length_drop, List.length_take]; rfl)) ?_
                      with_reducible refine (frame_Right.calls a0_0 a0_1 false (wrap64 (a0_3 + 1)) _ _ y545 t548 _ ?side1 ?side2 A41.out).mono ?_
                      (case side1 => repeat (first | exact (Kd.R_reads' HO547.out).2.2 | (with_reducible refine Kd.C_alloc ?_ _) | (with_reducible refine Kd.C_drewN ?_ _) | (with_reducible refine Kd.C_drew ?_)))
                      (case side2 => exact (Kd.R_reads' HO547.out).2.1)
                      rintro e w48 ⟨rfl, hb⟩
                      refine ⟨_, rfl, ?_⟩
                      have n0_ := Aside0.mk (Kd.R_below (by (with_reducible repeat (first | apply Kd.R_alloc | apply Kd.R_drewN | apply Kd.R_drew)); exact HO537.out) hb)
                      have n1_ := Aside0.mk (Kd.R_below (by (with_reducible repeat (first | apply Kd.R_alloc | apply Kd.R_drewN | apply Kd.R_drew)); exact HO547.out) hb)
                      have n2_ := Aside0.mk (blk_below (g := gb531) (o := .cells #[.bool a0_0, .int .i64 a0_1, .bool false, .int .i64 a0_3, .slice A0_4 l0_4.length c0_4] 24 (0, 0)) (by (with_reducible repeat (first | refine blk_drewN ?_ _ | refine blk_drew ?_ | refine blk_alloc ?_ _)); exact BK531.out) hb)
                      have n3_ := Aside0.mk (blk_below (g := gb538) (o := .cells #[.bool a0_0, .int .i64 a0_1, .bool false, .int .i64 (wrap64 (a0_3 + 1)), .slice Ao38 y545.length co38] 24 (0, 0)) (by (with_reducible repeat (first | refine blk_drewN ?_ _ | refine blk_drew ?_ | refine blk_alloc ?_ _)); exact BK538.out) hb)
                      have n4_ := Aside0.mk (below_step (by repeat (first | (with_reducible first | exact HB.out | apply below_alloc | apply pw_below_drewN | apply below_drew1 | refine below_set ?_ GE531.out | refine below_set ?_ GE538.out) | exact HB.out)) hb)
                      clear HO537
                      clear HO547
                      clear BK531
                      clear BK538
                      clear HB
                      have HO537 := n0_
                      have HO547 := n1_
                      have BK531 := n2_
                      have BK538 := n3_
                      have HB := n4_
                      clear n0_ n1_ n2_ n3_ n4_
                      (try clear hb)
                      (try clear hb2)
                      (try clear hk)
                      (try clear hi)
                      refine hK.out _ _ ⟨(blk_cell BK538.out 0).trans rfl, (blk_cell BK538.out 1).trans rfl, (blk_cell BK538.out 2).trans rfl, (blk_cell BK538.out 3).trans rfl, (blk_cell BK538.out 4).trans rfl, (blk_cell BK531.out 0).trans rfl, (blk_cell BK531.out 1).trans rfl, (blk_cell BK531.out 2).trans rfl, (blk_cell BK531.out 3).trans rfl, (blk_cell BK531.out 4).trans rfl⟩ (fun hHeld => ?_)
                      clear hK K
                      refine norm_ (a' := ?_) ?_ ?_
                      rotate_left
                      · show Act.put _ (some 46) _ = _
                        simp only [Act.put, List.setIfInBounds_toArray, List.set_cons_zero, List.set_cons_succ, i64_w, i32_w]
                        rfl
                      refine pure_ (i := 5) (N := some 50) (v := ?_) (a' := ?_) #[true, true, true, true, true, true, false, false, false, false, false] rfl rfl (any_of HT_.out (by kernel_rfl)) (fun _ _ _ h => h) (Or.inl ⟨by rfl, ?_⟩) ?_ ?_
                      rotate_left
                      · intro w'
                        go_simp
                        with_reducible rfl
                      rotate_left
                      · simp only [Act.put, List.setIfInBounds_toArray, List.set_cons_zero, List.set_cons_succ, i64_w, i32_w]
                        rfl
                      refine pure_ (i := 6) (N := some 51) (v := ?_) (a' := ?_) #[true, true, true, true, true, true, true, false, false, false, false] rfl rfl (any_of HT_.out (by kernel_rfl)) (fun _ _ _ h => h) (Or.inl ⟨by rfl, ?_⟩) ?_ ?_
                      rotate_left
                      · intro w'
                        go_simp
                        with_reducible rfl
                      rotate_left
                      · simp only [Act.put, List.setIfInBounds_toArray, List.set_cons_zero, List.set_cons_succ, i64_w, i32_w]
                        rfl
                      refine take_ (i := 7) (N := some 52) (v := ?_) (a' := ?_) #[true, true, true, true, true, true, true, true, false, false, false] rfl rfl (take_ofW HT_.out HW_.out (by kernel_rfl)) (fun _ _ _ h => h) (Or.inl ⟨by rfl, ?_⟩) hHeld ?_ ?_
                      rotate_left
                      · rintro w' ⟨s0, s1, s2, s3, s4, s5, s6, s7, s8, s9⟩
                        go_simp
                        with_reducible rfl
                      rotate_left
                      · simp only [Act.put, List.setIfInBounds_toArray, List.set_cons_zero, List.set_cons_succ, i64_w, i32_w]
                        rfl
                      refine pure_ (i := 8) (N := some 53) (v := ?_) (a' := ?_) #[true, true, true, true, true, true, true, true, true, false, false] rfl rfl (any_of HT_.out (by kernel_rfl)) (fun _ _ _ h => h) (Or.inl ⟨by rfl, ?_⟩) ?_ ?_
                      rotate_left
                      · intro w'
                        go_simp
                        with_reducible rfl
                      rotate_left
                      · simp only [Act.put, List.setIfInBounds_toArray, List.set_cons_zero, List.set_cons_succ, i64_w, i32_w]
                        rfl
                      refine pure_ (i := 9) (N := some 54) (v := ?_) (a' := ?_) #[true, true, true, true, true, true, true, true, true, true, false] rfl rfl (any_of HT_.out (by kernel_rfl)) (fun _ _ _ h => h) (Or.inl ⟨by rfl, ?_⟩) ?_ ?_
                      rotate_left
                      · intro w'
                        go_simp
                        with_reducible rfl
                      rotate_left
                      · simp only [Act.put, List.setIfInBounds_toArray, List.set_cons_zero, List.set_cons_succ, i64_w, i32_w]
                        rfl
                      refine pure_ (i := 10) (N := some 55) (v := ?_) (a' := ?_) #[true, true, true, true, true, true, true, true, true, true, true] rfl rfl (any_of HT_.out (by kernel_rfl)) (fun _ _ _ h => h) (Or.inl ⟨by rfl, ?_⟩) ?_ ?_
                      rotate_left
                      · intro w'
                        go_simp
                        with_reducible rfl
                      rotate_left
                      · simp only [Act.put, List.setIfInBounds_toArray, List.set_cons_zero, List.set_cons_succ, i64_w, i32_w]
                        rfl
                      refine done_ (done_of HT_.out (by kernel_rfl)) ?_
                      try go_wp2
                      go_meet
                      case rel => exact ⟨_, ((t548 != (decide (a0_3 < 8)))), (by first | rfl | (simp; done) | (simp [*]; done)), H', ⟨by have := HJ3.out; have := HJ17.out; first | omega | exact Nat.le_refl _⟩, ⟨by (with_reducible repeat (first | apply Kd.R_alloc | apply Kd.R_drewN | apply Kd.R_drew)); exact HO537.out⟩, ⟨by (with_reducible repeat (first | apply Kd.R_alloc | apply Kd.R_drewN | apply Kd.R_drew)); exact HO547.out⟩, ⟨by (with_reducible repeat (first | refine blk_drewN ?_ _ | refine blk_drew ?_ | refine blk_alloc ?_ _)); exact BK531.out⟩, ⟨by (with_reducible repeat (first | refine blk_drewN ?_ _ | refine blk_drew ?_ | refine blk_alloc ?_ _)); exact BK538.out⟩, ⟨by repeat (first | (with_reducible first | exact HB.out | apply below_alloc | apply pw_below_drewN | apply below_drew1 | refine below_set ?_ GE531.out | refine below_set ?_ GE538.out) | exact HB.out)⟩⟩
                  case rest =>
                    clear HC25
                    try clear c1
                    try clear c2
                    try clear p2
                    try clear c3
                    try clear c4
                    try clear p6
                    try clear c8
                    try clear c10
                    try clear c11
                    try clear c12
                    try clear c16
                    try clear c17
                    try clear c20
                    try clear c22
                    try clear c22b0
                    try clear c22b1
                    try clear c23
                    try clear c24
                    try clear c31
                    try clear c42
                    try clear hcz12_0
                    try clear hcz12_1
                    try clear hcz12_2
                    try clear hcz12_3
                    try clear hcz12_4
                    try clear hcz14_0
                    try clear hcz14_1
                    try clear hcz14_2
                    try clear hcz14_3
                    try clear hcz14_4
                    try clear hcz19_0
                    try clear hcz19_1
                    try clear hcz19_2
                    try clear hcz19_3
                    try clear hcz19_4
                    try clear hcz26_0
                    try clear hcz26_1
                    try clear hcz26_2
                    try clear hcz26_3
                    try clear hcz26_4
                    try clear hcz29_0
                    try clear hcz29_1
                    try clear hcz29_2
                    try clear hcz29_3
                    try clear hcz29_4
                    try clear hcz32_0
                    try clear hcz32_1
                    try clear hcz32_2
                    try clear hcz32_3
                    try clear hcz32_4
                    try clear hcz35_0
                    try clear hcz35_1
                    try clear hcz35_2
                    try clear hcz35_3
                    try clear hcz35_4
                    try clear hcz39_0
                    try clear hcz39_1
                    try clear hcz39_2
                    try clear hcz39_3
                    try clear hcz39_4
                    try clear hcz40_0
                    try clear hcz40_1
                    try clear hcz40_2
                    try clear hcz40_3
                    try clear hcz40_4
                    try clear hcz9_0
                    try clear hcz9_1
                    try clear hcz9_2
                    try clear hcz9_3
                    try clear hcz9_4
                    try clear hfz12_0
                    try clear hfz12_1
                    try clear hfz12_2
                    try clear hfz12_3
                    try clear hfz12_4
                    try clear hfz14_0
                    try clear hfz14_1
                    try clear hfz14_2
                    try clear hfz14_3
                    try clear hfz14_4
                    try clear hfz19_0
                    try clear hfz19_1
                    try clear hfz19_2
                    try clear hfz19_3
                    try clear hfz19_4
                    try clear hfz26_0
                    try clear hfz26_1
                    try clear hfz26_2
                    try clear hfz26_3
                    try clear hfz26_4
                    try clear hfz29_0
                    try clear hfz29_1
                    try clear hfz29_2
                    try clear hfz29_3
                    try clear hfz29_4
                    try clear hfz32_0
                    try clear hfz32_1
                    try clear hfz32_2
                    try clear hfz32_3
                    try clear hfz32_4
                    try clear hfz35_0
                    try clear hfz35_1
                    try clear hfz35_2
                    try clear hfz35_3
                    try clear hfz35_4
                    try clear hfz39_0
                    try clear hfz39_1
                    try clear hfz39_2
                    try clear hfz39_3
                    try clear hfz39_4
                    try clear hfz40_0
                    try clear hfz40_1
                    try clear hfz40_2
                    try clear hfz40_3
                    try clear hfz40_4
                    try clear hfz9_0
                    try clear hfz9_1
                    try clear hfz9_2
                    try clear hfz9_3
                    try clear hfz9_4
                    try clear p2
                    obtain ⟨kq, x55_24, rfl, HA, HJ24, HO_7, HO_539004, BK531, BK538, HB⟩ := hcut
                    cases kq with
                    | zero => exact absurd HA.out (by simp [phaetonlaw04_FrameLengths.j2])
                    | succ kj24 =>
                      have H := HA.out
                      clear HA
                      simp only [phaetonlaw04_FrameLengths.j2] at H
                      by_cases c49 : x55_24 = true
                      · subst c49
                        have H1 : (none) = some r := by rw [if_pos rfl] at H; exact H
                        clear H
                        have H := H1
                        clear H1
                        exact absurd H (by simp)
                      · replace c49 := Bool.eq_false_iff.mpr c49
                        subst c49
                        have H1 : (if a0_2 = true then (phaetonlaw04_FrameLengths.j3 kj24 t532 x6_17 t535 true a0_0 a0_1 a0_2 (wrap64 (a0_3 + 1)) y545) else (phaetonlaw04_FrameLengths.j3 kj24 t532 x6_17 t535 (a0_3 == 8) a0_0 a0_1 a0_2 (wrap64 (a0_3 + 1)) y545)) = some r := by rw [if_neg (show ¬ (false = true) by decide)] at H; exact H
                        clear H
                        have H := H1
                        clear H1
                        have HC50 := Aside0.mk H
                        clear H
                        go_upto_region 15 with (fail)
                        go_cut [62] (fun v62 wc => ∃ (kq : Nat) (x62_49 : Bool), v62 = .bool x62_49 ∧ Aside0 (phaetonlaw04_FrameLengths.j3 kq t532 x6_17 t535 x62_49 a0_0 a0_1 a0_2 (wrap64 (a0_3 + 1)) y545 = some r) ∧ Aside0 (kq ≤ kj24) ∧ Aside0 (Kd.R (Kd.int .i64) 3 wc w.heap.size (fun _ => True) (.slice Ao28 t535.length co28) t535) ∧ Aside0 (Kd.R (Kd.int .u8) 5 wc w.heap.size (fun _ => True) (.slice Ao38 y545.length co38) y545) ∧ Aside0 (wc.heap[gb531]? = some (.cells #[.bool a0_0, .int .i64 a0_1, .bool a0_2, .int .i64 a0_3, (.slice A0_4 l0_4.length c0_4)] 24 (0, 0))) ∧ Aside0 (wc.heap[gb538]? = some (.cells #[.bool a0_0, .int .i64 a0_1, .bool a0_2, .int .i64 (wrap64 (a0_3 + 1)), (.slice Ao38 y545.length co38)] 24 (0, 0))) ∧ Aside0 (Below w.heap.size w wc))
                        case first =>
                          have H := HC50.out
                          clear HC50
                          by_cases c51 : a0_2 = true
                          · subst c51
                            have H1 : (phaetonlaw04_FrameLengths.j3 kj24 t532 x6_17 t535 true a0_0 a0_1 true (wrap64 (a0_3 + 1)) y545) = some r := by rw [if_pos rfl] at H; exact H
                            clear H
                            have H := H1
                            clear H1
                            have H' := Aside0.mk H
                            clear H
                            have hnb52 := NB531_538.out
                            have hnc52 := NB538_531.out
                            have hcz53_0 : wc.cell? ⟨gb531, 0, none⟩ = some (.bool a0_0) := (blk_cell BK531.out 0).trans rfl
                            have hcz53_1 : wc.cell? ⟨gb531, 1, none⟩ = some (.int .i64 a0_1) := (blk_cell BK531.out 1).trans rfl
                            have hcz53_2 : wc.cell? ⟨gb531, 2, none⟩ = some (.bool true) := (blk_cell BK531.out 2).trans rfl
                            have hcz53_3 : wc.cell? ⟨gb531, 3, none⟩ = some (.int .i64 a0_3) := (blk_cell BK531.out 3).trans rfl
                            have hcz53_4 : wc.cell? ⟨gb531, 4, none⟩ = some (.slice A0_4 l0_4.length c0_4) := (blk_cell BK531.out 4).trans rfl
                            have hfz53_0 := blk_frozen BK531.out 0
                            have hfz53_1 := blk_frozen BK531.out 1
                            have hfz53_2 := blk_frozen BK531.out 2
                            have hfz53_3 := blk_frozen BK531.out 3
                            have hfz53_4 := blk_frozen BK531.out 4
                            go_wp2
                            go_meet
                            case rel => exact ⟨_, (true), (by first | rfl | (simp; done) | (simp [*]; done)), H', ⟨by have := HJ3.out; have := HJ17.out; have := HJ24.out; first | omega | exact Nat.le_refl _⟩, ⟨by (with_reducible repeat (first | apply Kd.R_alloc | apply Kd.R_drewN | apply Kd.R_drew)); exact HO_7.out⟩, ⟨by (with_reducible repeat (first | apply Kd.R_alloc | apply Kd.R_drewN | apply Kd.R_drew)); exact HO_539004.out⟩, ⟨by (with_reducible repeat (first | refine blk_drewN ?_ _ | refine blk_drew ?_ | refine blk_alloc ?_ _)); exact BK531.out⟩, ⟨by (with_reducible repeat (first | refine blk_drewN ?_ _ | refine blk_drew ?_ | refine blk_alloc ?_ _)); exact BK538.out⟩, ⟨by repeat (first | (with_reducible first | exact HB.out | apply below_alloc | apply pw_below_drewN | apply below_drew1 | refine below_set ?_ GE531.out | refine below_set ?_ GE538.out) | exact HB.out)⟩⟩
                          · replace c51 := Bool.eq_false_iff.mpr c51
                            subst c51
                            have H1 : (phaetonlaw04_FrameLengths.j3 kj24 t532 x6_17 t535 (a0_3 == 8) a0_0 a0_1 false (wrap64 (a0_3 + 1)) y545) = some r := by rw [if_neg (show ¬ (false = true) by decide)] at H; exact H
                            clear H
                            have H := H1
                            clear H1
                            have H' := Aside0.mk H
                            clear H
                            have hnb54 := NB531_538.out
                            have hnc54 := NB538_531.out
                            have hcz55_0 : wc.cell? ⟨gb531, 0, none⟩ = some (.bool a0_0) := (blk_cell BK531.out 0).trans rfl
                            have hcz55_1 : wc.cell? ⟨gb531, 1, none⟩ = some (.int .i64 a0_1) := (blk_cell BK531.out 1).trans rfl
                            have hcz55_2 : wc.cell? ⟨gb531, 2, none⟩ = some (.bool false) := (blk_cell BK531.out 2).trans rfl
                            have hcz55_3 : wc.cell? ⟨gb531, 3, none⟩ = some (.int .i64 a0_3) := (blk_cell BK531.out 3).trans rfl
                            have hcz55_4 : wc.cell? ⟨gb531, 4, none⟩ = some (.slice A0_4 l0_4.length c0_4) := (blk_cell BK531.out 4).trans rfl
                            have hfz55_0 := blk_frozen BK531.out 0
                            have hfz55_1 := blk_frozen BK531.out 1
                            have hfz55_2 := blk_frozen BK531.out 2
                            have hfz55_3 := blk_frozen BK531.out 3
                            have hfz55_4 := blk_frozen BK531.out 4
                            go_wp2
                            go_meet
                            case rel => exact ⟨_, ((a0_3 == 8)), (by first | rfl | (simp; done) | (simp [*]; done)), H', ⟨by have := HJ3.out; have := HJ17.out; have := HJ24.out; first | omega | exact Nat.le_refl _⟩, ⟨by (with_reducible repeat (first | apply Kd.R_alloc | apply Kd.R_drewN | apply Kd.R_drew)); exact HO_7.out⟩, ⟨by (with_reducible repeat (first | apply Kd.R_alloc | apply Kd.R_drewN | apply Kd.R_drew)); exact HO_539004.out⟩, ⟨by (with_reducible repeat (first | refine blk_drewN ?_ _ | refine blk_drew ?_ | refine blk_alloc ?_ _)); exact BK531.out⟩, ⟨by (with_reducible repeat (first | refine blk_drewN ?_ _ | refine blk_drew ?_ | refine blk_alloc ?_ _)); exact BK538.out⟩, ⟨by repeat (first | (with_reducible first | exact HB.out | apply below_alloc | apply pw_below_drewN | apply below_drew1 | refine below_set ?_ GE531.out | refine below_set ?_ GE538.out) | exact HB.out)⟩⟩
                        case rest =>
                          clear HC50
                          try clear c1
                          try clear c2
                          try clear p2
                          try clear c3
                          try clear c4
                          try clear c5
                          try clear p6
                          try clear c8
                          try clear c10
                          try clear c11
                          try clear c12
                          try clear c16
                          try clear c17
                          try clear c20
                          try clear c22
                          try clear c22b0
                          try clear c22b1
                          try clear c23
                          try clear c24
                          try clear c31
                          try clear c42
                          try clear c49
                          try clear c51
                          try clear c52
                          try clear c54
                          try clear hcz12_0
                          try clear hcz12_1
                          try clear hcz12_2
                          try clear hcz12_3
                          try clear hcz12_4
                          try clear hcz14_0
                          try clear hcz14_1
                          try clear hcz14_2
                          try clear hcz14_3
                          try clear hcz14_4
                          try clear hcz19_0
                          try clear hcz19_1
                          try clear hcz19_2
                          try clear hcz19_3
                          try clear hcz19_4
                          try clear hcz26_0
                          try clear hcz26_1
                          try clear hcz26_2
                          try clear hcz26_3
                          try clear hcz26_4
                          try clear hcz29_0
                          try clear hcz29_1
                          try clear hcz29_2
                          try clear hcz29_3
                          try clear hcz29_4
                          try clear hcz32_0
                          try clear hcz32_1
                          try clear hcz32_2
                          try clear hcz32_3
                          try clear hcz32_4
                          try clear hcz35_0
                          try clear hcz35_1
                          try clear hcz35_2
                          try clear hcz35_3
                          try clear hcz35_4
                          try clear hcz39_0
                          try clear hcz39_1
                          try clear hcz39_2
                          try clear hcz39_3
                          try clear hcz39_4
                          try clear hcz40_0
                          try clear hcz40_1
                          try clear hcz40_2
                          try clear hcz40_3
                          try clear hcz40_4
                          try clear hcz53_0
                          try clear hcz53_1
                          try clear hcz53_2
                          try clear hcz53_3
                          try clear hcz53_4
                          try clear hcz55_0
                          try clear hcz55_1
                          try clear hcz55_2
                          try clear hcz55_3
                          try clear hcz55_4
                          try clear hcz9_0
                          try clear hcz9_1
                          try clear hcz9_2
                          try clear hcz9_3
                          try clear hcz9_4
                          try clear hfz12_0
                          try clear hfz12_1
                          try clear hfz12_2
                          try clear hfz12_3
                          try clear hfz12_4
                          try clear hfz14_0
                          try clear hfz14_1
                          try clear hfz14_2
                          try clear hfz14_3
                          try clear hfz14_4
                          try clear hfz19_0
                          try clear hfz19_1
                          try clear hfz19_2
                          try clear hfz19_3
                          try clear hfz19_4
                          try clear hfz26_0
                          try clear hfz26_1
                          try clear hfz26_2
                          try clear hfz26_3
                          try clear hfz26_4
                          try clear hfz29_0
                          try clear hfz29_1
                          try clear hfz29_2
                          try clear hfz29_3
                          try clear hfz29_4
                          try clear hfz32_0
                          try clear hfz32_1
                          try clear hfz32_2
                          try clear hfz32_3
                          try clear hfz32_4
                          try clear hfz35_0
                          try clear hfz35_1
                          try clear hfz35_2
                          try clear hfz35_3
                          try clear hfz35_4
                          try clear hfz39_0
                          try clear hfz39_1
                          try clear hfz39_2
                          try clear hfz39_3
                          try clear hfz39_4
                          try clear hfz40_0
                          try clear hfz40_1
                          try clear hfz40_2
                          try clear hfz40_3
                          try clear hfz40_4
                          try clear hfz53_0
                          try clear hfz53_1
                          try clear hfz53_2
                          try clear hfz53_3
                          try clear hfz53_4
                          try clear hfz55_0
                          try clear hfz55_1
                          try clear hfz55_2
                          try clear hfz55_3
                          try clear hfz55_4
                          try clear hfz9_0
                          try clear hfz9_1
                          try clear hfz9_2
                          try clear hfz9_3
                          try clear hfz9_4
                          try clear p2
                          try clear p6
                          obtain ⟨kq, x62_49, rfl, HA, HJ49, HO_7, HO_539004, BK531, BK538, HB⟩ := hcut
                          cases kq with
                          | zero => exact absurd HA.out (by simp [phaetonlaw04_FrameLengths.j3])
                          | succ kj49 =>
                            have H := HA.out
                            clear HA
                            simp only [phaetonlaw04_FrameLengths.j3] at H
                            by_cases c56 : x62_49 = true
                            · subst c56
                              have H1 : (if t532 = true then (some true) else (none)) = some r := by rw [if_pos rfl] at H; exact H
                              clear H
                              have H := H1
                              clear H1
                              by_cases c57 : t532 = true
                              · subst c57
                                have H1 : (some true) = some r := by rw [if_pos rfl] at H; exact H
                                clear H
                                have H := H1
                                clear H1
                                obtain rfl := Option.some.inj H
                                go_wp2
                                go_ret
                                exact ⟨by first | rfl | (simp [errW_none, errW_some] <;> rfl) | (simp [*, errW_none, errW_some] <;> rfl), by repeat (first | (with_reducible first | exact HB.out | apply below_alloc | apply pw_below_drewN | apply below_drew1 | refine below_set ?_ GE531.out | refine below_set ?_ GE538.out) | exact HB.out)⟩
                              · replace c57 := Bool.eq_false_iff.mpr c57
                                subst c57
                                have H1 : (none) = some r := by rw [if_neg (show ¬ (false = true) by decide)] at H; exact H
                                clear H
                                have H := H1
                                clear H1
                                exact absurd H (by simp)
                            · replace c56 := Bool.eq_false_iff.mpr c56
                              subst c56
                              have H1 : ((frame_Head.f a0_0 a0_1 a0_2 (wrap64 (a0_3 + 1)) y545).bind fun t549 => (if t532 = true then (if (t549.length : Int) = (wrap64 ((t535.length : Int) + 8)) then (if 0 ≤ (wrap64 (x6_17 - 4)) then (if (wrap64 (x6_17 - 4)) ≤ (t549.length : Int) then (if (wrap64 (x6_17 - 4)) ≤ (t535.length : Int) then ((phaetonref01_Same.f kj49 (t549.take ((wrap64 (x6_17 - 4)) : Int).toNat) (t535.take ((wrap64 (x6_17 - 4)) : Int).toNat)).bind fun t560 => (if t560 = true then (if 0 ≤ x6_17 then (if x6_17 ≤ (t535.length : Int) then (if (t535.length : Int) ≤ (t549.length : Int) then ((phaetonref01_Same.f kj49 ((t549.take ((t535.length : Int) : Int).toNat).drop (x6_17 : Int).toNat) (t535.drop (x6_17 : Int).toNat)).bind fun t569 => (if t569 = true then (some true) else (none))) else (none)) else (none)) else (none)) else (none))) else (none)) else (none)) else (none)) else (none)) else (none))) = some r := by rw [if_neg (show ¬ (false = true) by decide)] at H; exact H
                              clear H
                              have H := H1
                              clear H1
                              replace H := Option.bind_eq_some_iff.mp H
                              obtain ⟨t549, A580, H⟩ := H
                              replace H : (if t532 = true then (if (t549.length : Int) = (wrap64 ((t535.length : Int) + 8)) then (if 0 ≤ (wrap64 (x6_17 - 4)) then (if (wrap64 (x6_17 - 4)) ≤ (t549.length : Int) then (if (wrap64 (x6_17 - 4)) ≤ (t535.length : Int) then ((phaetonref01_Same.f kj49 (t549.take ((wrap64 (x6_17 - 4)) : Int).toNat) (t535.take ((wrap64 (x6_17 - 4)) : Int).toNat)).bind fun t560 => (if t560 = true then (if 0 ≤ x6_17 then (if x6_17 ≤ (t535.length : Int) then (if (t535.length : Int) ≤ (t549.length : Int) then ((phaetonref01_Same.f kj49 ((t549.take ((t535.length : Int) : Int).toNat).drop (x6_17 : Int).toNat) (t535.drop (x6_17 : Int).toNat)).bind fun t569 => (if t569 = true then (some true) else (none))) else (none)) else (none)) else (none)) else (none))) else (none)) else (none)) else (none)) else (none)) else (none)) = some r := H
                              have A58 := Aside0.mk A580
                              clear A580
                              by_cases c59 : t532 = true
                              · subst c59
                                have H1 : (if (t549.length : Int) = (wrap64 ((t535.length : Int) + 8)) then (if 0 ≤ (wrap64 (x6_17 - 4)) then (if (wrap64 (x6_17 - 4)) ≤ (t549.length : Int) then (if (wrap64 (x6_17 - 4)) ≤ (t535.length : Int) then ((phaetonref01_Same.f kj49 (t549.take ((wrap64 (x6_17 - 4)) : Int).toNat) (t535.take ((wrap64 (x6_17 - 4)) : Int).toNat)).bind fun t560 => (if t560 = true then (if 0 ≤ x6_17 then (if x6_17 ≤ (t535.length : Int) then (if (t535.length : Int) ≤ (t549.length : Int) then ((phaetonref01_Same.f kj49 ((t549.take ((t535.length : Int) : Int).toNat).drop (x6_17 : Int).toNat) (t535.drop (x6_17 : Int).toNat)).bind fun t569 => (if t569 = true then (some true) else (none))) else (none)) else (none)) else (none)) else (none))) else (none)) else (none)) else (none)) else (none)) = some r := by rw [if_pos rfl] at H; exact H
                                clear H
                                have H := H1
                                clear H1
                                by_cases c60 : (t549.length : Int) = (wrap64 ((t535.length : Int) + 8))
                                · rw [if_pos c60] at H
                                  have c60b0 : ((t549.length : Int) == (wrap64 ((t535.length : Int) + 8))) = true := beq_iff_eq.mpr c60
                                  have c60b1 : ((t549.length : Int) != (wrap64 ((t535.length : Int) + 8))) = false := bne_eq_false_iff_eq.mpr c60
                                  clear c60
                                  obtain ⟨ji61, hji61⟩ : ∃ j_ : Int, (wrap64 (x6_17 - 4)) = j_ := ⟨_, rfl⟩
                                  replace H : (if 0 ≤ (ji61) then (if (ji61) ≤ (t549.length : Int) then (if (ji61) ≤ (t535.length : Int) then ((phaetonref01_Same.f kj49 (t549.take ((ji61) : Int).toNat) (t535.take ((ji61) : Int).toNat)).bind fun t560 => (if t560 = true then (if 0 ≤ x6_17 then (if x6_17 ≤ (t535.length : Int) then (if (t535.length : Int) ≤ (t549.length : Int) then ((phaetonref01_Same.f kj49 ((t549.take ((t535.length : Int) : Int).toNat).drop (x6_17 : Int).toNat) (t535.drop (x6_17 : Int).toNat)).bind fun t569 => (if t569 = true then (some true) else (none))) else (none)) else (none)) else (none)) else (none))) else (none)) else (none)) else (none)) = some r := by first | (rw [hji61] at H; exact H) | (simp only [hji61] at H ⊢; exact H)
                                  (try rw [hji61] at A58)
                                  have hji61w : (IntKind.i64.wrap (x6_17 - 4)) = ji61 := (i64_w _).trans hji61
                                  by_cases c62 : 0 ≤ (ji61)
                                  · rw [if_pos c62] at H
                                    have c62b0 := eq_true c62
                                    have c62b1 : decide (0 ≤ (ji61)) = true := decide_eq_true c62
                                    have c62m : max (ji61) 0 = (ji61) := by omega
                                    clear c62
                                    by_cases c63 : (ji61) ≤ (t549.length : Int)
                                    · rw [if_pos c63] at H
                                      have c63b0 := eq_true c63
                                      have c63b1 : decide ((ji61) ≤ (t549.length : Int)) = true := decide_eq_true c63
                                      clear c63
                                      obtain ⟨y552, hy552⟩ : ∃ y_ : List Int, y_ = (t549.take ((ji61) : Int).toNat) := ⟨_, rfl⟩
                                      replace H : (if (ji61) ≤ (t535.length : Int) then ((phaetonref01_Same.f kj49 y552 (t535.take ((ji61) : Int).toNat)).bind fun t560 => (if t560 = true then (if 0 ≤ x6_17 then (if x6_17 ≤ (t535.length : Int) then (if (t535.length : Int) ≤ (t549.length : Int) then ((phaetonref01_Same.f kj49 ((t549.take ((t535.length : Int) : Int).toNat).drop (x6_17 : Int).toNat) (t535.drop (x6_17 : Int).toNat)).bind fun t569 => (if t569 = true then (some true) else (none))) else (none)) else (none)) else (none)) else (none))) else (none)) = some r := by first | (rw [hy552]; with_reducible exact H) | (have H2_ := (Option.bind_some _ _).symm.trans H; rw [hy552]; with_reducible exact H2_) | (have H2_ := (Option.bind_some _ _).symm.trans H; with_reducible exact H2_) | with_reducible exact H | (rw [hy552]; exact H) | exact H
                                      have Ny552 := Aside0.mk hy552
                                      clear hy552
                                      have c64b0 := eq_true (of_decide_eq_true (by first | (with_reducible assumption) | assumption) : 0 ≤ (ji61))
                                      by_cases c65 : (ji61) ≤ (t535.length : Int)
                                      · rw [if_pos c65] at H
                                        have c65b0 := eq_true c65
                                        have c65b1 : decide ((ji61) ≤ (t535.length : Int)) = true := decide_eq_true c65
                                        clear c65
                                        obtain ⟨y556, hy556⟩ : ∃ y_ : List Int, y_ = (t535.take ((ji61) : Int).toNat) := ⟨_, rfl⟩
                                        replace H : ((phaetonref01_Same.f kj49 y552 y556).bind fun t560 => (if t560 = true then (if 0 ≤ x6_17 then (if x6_17 ≤ (t535.length : Int) then (if (t535.length : Int) ≤ (t549.length : Int) then ((phaetonref01_Same.f kj49 ((t549.take ((t535.length : Int) : Int).toNat).drop (x6_17 : Int).toNat) (t535.drop (x6_17 : Int).toNat)).bind fun t569 => (if t569 = true then (some true) else (none))) else (none)) else (none)) else (none)) else (none))) = some r := by first | (rw [hy556]; with_reducible exact H) | (have H2_ := (Option.bind_some _ _).symm.trans H; rw [hy556]; with_reducible exact H2_) | (have H2_ := (Option.bind_some _ _).symm.trans H; with_reducible exact H2_) | with_reducible exact H | (rw [hy556]; exact H) | exact H
                                        have Ny556 := Aside0.mk hy556
                                        clear hy556
                                        replace H := Option.bind_eq_some_iff.mp H
                                        obtain ⟨t560, A660, H⟩ := H
                                        replace H : (if t560 = true then (if 0 ≤ x6_17 then (if x6_17 ≤ (t535.length : Int) then (if (t535.length : Int) ≤ (t549.length : Int) then ((phaetonref01_Same.f kj49 ((t549.take ((t535.length : Int) : Int).toNat).drop (x6_17 : Int).toNat) (t535.drop (x6_17 : Int).toNat)).bind fun t569 => (if t569 = true then (some true) else (none))) else (none)) else (none)) else (none)) else (none)) = some r := H
                                        have A66 := Aside0.mk A660
                                        clear A660
                                        by_cases c67 : t560 = true
                                        · subst c67
                                          have H1 : (if 0 ≤ x6_17 then (if x6_17 ≤ (t535.length : Int) then (if (t535.length : Int) ≤ (t549.length : Int) then ((phaetonref01_Same.f kj49 ((t549.take ((t535.length : Int) : Int).toNat).drop (x6_17 : Int).toNat) (t535.drop (x6_17 : Int).toNat)).bind fun t569 => (if t569 = true then (some true) else (none))) else (none)) else (none)) else (none)) = some r := by rw [if_pos rfl] at H; exact H
                                          clear H
                                          have H := H1
                                          clear H1
                                          by_cases c68 : 0 ≤ x6_17
                                          · rw [if_pos c68] at H
                                            have c68b0 := eq_true c68
                                            have c68b1 : decide (0 ≤ x6_17) = true := decide_eq_true c68
                                            clear c68
                                            by_cases c69 : x6_17 ≤ (t535.length : Int)
                                            · rw [if_pos c69] at H
                                              have c69b0 := eq_true c69
                                              have c69b1 : decide (x6_17 ≤ (t535.length : Int)) = true := decide_eq_true c69
                                              clear c69
                                              by_cases c70 : (t535.length : Int) ≤ (t549.length : Int)
                                              · rw [if_pos c70] at H
                                                have c70b0 := eq_true c70
                                                have c70b1 : decide ((t535.length : Int) ≤ (t549.length : Int)) = true := decide_eq_true c70
                                                clear c70
                                                obtain ⟨y561, hy561⟩ : ∃ y_ : List Int, y_ = ((t549.take ((t535.length : Int) : Int).toNat).drop (x6_17 : Int).toNat) := ⟨_, rfl⟩
                                                replace H : ((phaetonref01_Same.f kj49 y561 (t535.drop (x6_17 : Int).toNat)).bind fun t569 => (if t569 = true then (some true) else (none))) = some r := by first | (rw [hy561]; with_reducible exact H) | (have H2_ := (Option.bind_some _ _).symm.trans H; rw [hy561]; with_reducible exact H2_) | (have H2_ := (Option.bind_some _ _).symm.trans H; with_reducible exact H2_) | with_reducible exact H | (rw [hy561]; exact H) | exact H
                                                have Ny561 := Aside0.mk hy561
                                                clear hy561
                                                have c71b0 := eq_true (of_decide_eq_true (by first | (with_reducible assumption) | assumption) : 0 ≤ x6_17)
                                                have c72b0 := eq_true (of_decide_eq_true (by first | (with_reducible assumption) | assumption) : x6_17 ≤ (t535.length : Int))
                                                obtain ⟨y565, hy565⟩ : ∃ y_ : List Int, y_ = (t535.drop (x6_17 : Int).toNat) := ⟨_, rfl⟩
                                                replace H : ((phaetonref01_Same.f kj49 y561 y565).bind fun t569 => (if t569 = true then (some true) else (none))) = some r := by first | (rw [hy565]; with_reducible exact H) | (have H2_ := (Option.bind_some _ _).symm.trans H; rw [hy565]; with_reducible exact H2_) | (have H2_ := (Option.bind_some _ _).symm.trans H; with_reducible exact H2_) | with_reducible exact H | (rw [hy565]; exact H) | exact H
                                                have Ny565 := Aside0.mk hy565
                                                clear hy565
                                                replace H := Option.bind_eq_some_iff.mp H
                                                obtain ⟨t569, A730, H⟩ := H
                                                replace H : (if t569 = true then (some true) else (none)) = some r := H
                                                have A73 := Aside0.mk A730
                                                clear A730
                                                by_cases c74 : t569 = true
                                                · subst c74
                                                  have H1 : (some true) = some r := by rw [if_pos rfl] at H; exact H
                                                  clear H
                                                  have H := H1
                                                  clear H1
                                                  obtain rfl := Option.some.inj H
                                                  have hnb75 := NB538_531.out
                                                  have hnc75 := NB531_538.out
                                                  have hcz76_0 : wc.cell? ⟨gb538, 0, none⟩ = some (.bool a0_0) := (blk_cell BK538.out 0).trans rfl
                                                  have hcz76_1 : wc.cell? ⟨gb538, 1, none⟩ = some (.int .i64 a0_1) := (blk_cell BK538.out 1).trans rfl
                                                  have hcz76_2 : wc.cell? ⟨gb538, 2, none⟩ = some (.bool a0_2) := (blk_cell BK538.out 2).trans rfl
                                                  have hcz76_3 : wc.cell? ⟨gb538, 3, none⟩ = some (.int .i64 (wrap64 (a0_3 + 1))) := (blk_cell BK538.out 3).trans rfl
                                                  have hcz76_4 : wc.cell? ⟨gb538, 4, none⟩ = some (.slice Ao38 y545.length co38) := (blk_cell BK538.out 4).trans rfl
                                                  have hfz76_0 := blk_frozen BK538.out 0
                                                  have hfz76_1 := blk_frozen BK538.out 1
                                                  have hfz76_2 := blk_frozen BK538.out 2
                                                  have hfz76_3 := blk_frozen BK538.out 3
                                                  have hfz76_4 := blk_frozen BK538.out 4
                                                  try go_wp2_with (first | ((with_reducible refine gate_store (t := 24) (p := 8) rfl ?_); refine HW.store_box rfl rfl 24 _ _ rfl rfl rfl BK538.out rfl (by kernel_rfl) (by intro q hq; simp only [List.mem_cons, List.not_mem_nil, or_false] at hq; rcases hq with rfl | rfl | rfl | rfl | rfl <;> rfl) ?_; intro w1_ hw1_; simp only [List.toList_toArray, World.setCells, Nat.zero_add, Nat.reduceAdd] at hw1_; subst hw1_) | ((with_reducible refine gate_store (t := 24) (p := 2) rfl ?_); refine HW.store_box rfl rfl 24 _ _ rfl rfl rfl BK531.out rfl (by kernel_rfl) (by intro q hq; simp only [List.mem_cons, List.not_mem_nil, or_false] at hq; rcases hq with rfl | rfl | rfl | rfl | rfl <;> rfl) ?_; intro w1_ hw1_; simp only [List.toList_toArray, World.setCells, Nat.zero_add, Nat.reduceAdd] at hw1_; subst hw1_) | ((with_reducible refine gate_callee (f := 17) rfl ?_); refine goesL_ (some 65) rfl rfl Try.func17 (by kernel_rfl) rfl #[.agg #[.bool a0_0, .int .i64 a0_1, .bool a0_2, .int .i64 (wrap64 (a0_3 + 1)), .slice Ao38 y545.length co38]] rfl (by (try simp only [List.map_toArray, List.map_cons, List.map_nil]); first | done | rfl | (simp only [List.length_drop, List.length_take]; rfl)) ?_; (with_reducible refine (frame_Head.calls a0_0 a0_1 a0_2 (wrap64 (a0_3 + 1)) _ _ y545 t549 _ ?side1 ?side2 A58.out).mono ?_); (case side1 => repeat (first | exact (Kd.R_reads' HO_539004.out).2.2 | (with_reducible refine Kd.C_alloc ?_ _) | (with_reducible refine Kd.C_drewN ?_ _) | (with_reducible refine Kd.C_drew ?_))); (case side2 => exact (Kd.R_reads' HO_539004.out).2.1); rintro e w77 ⟨v550, rfl, ho0, hb⟩; refine ⟨_, rfl, ?_⟩; have n0_ := Aside0.mk (Kd.R_elder' (by (with_reducible repeat (first | apply Kd.R_alloc | apply Kd.R_drewN | apply Kd.R_drew)); exact HO_7.out) (Kd.R_base ho0) hb); have n1_ := Aside0.mk (Kd.R_below (by (with_reducible repeat (first | apply Kd.R_alloc | apply Kd.R_drewN | apply Kd.R_drew)); exact HO_539004.out) hb); have n2_ := Aside0.mk (Kd.R_lower (Kd.R_new' ho0 (Kd.R_lt (by (with_reducible repeat (first | apply Kd.R_alloc | apply Kd.R_drewN | apply Kd.R_drew)); exact HO_7.out))) (below_size (by repeat (first | (with_reducible first | exact HB.out | apply below_alloc | apply pw_below_drewN | apply below_drew1 | refine below_set ?_ GE531.out | refine below_set ?_ GE538.out) | exact HB.out)))); have n3_ := Aside0.mk (blk_below (g := gb531) (o := .cells #[.bool a0_0, .int .i64 a0_1, .bool a0_2, .int .i64 a0_3, .slice A0_4 l0_4.length c0_4] 24 (0, 0)) (by (with_reducible repeat (first | refine blk_drewN ?_ _ | refine blk_drew ?_ | refine blk_alloc ?_ _)); exact BK531.out) hb); have n4_ := Aside0.mk (blk_below (g := gb538) (o := .cells #[.bool a0_0, .int .i64 a0_1, .bool a0_2, .int .i64 (wrap64 (a0_3 + 1)), .slice Ao38 y545.length co38] 24 (0, 0)) (by (with_reducible repeat (first | refine blk_drewN ?_ _ | refine blk_drew ?_ | refine blk_alloc ?_ _)); exact BK538.out) hb); have n5_ := Aside0.mk (below_step (by repeat (first | (with_reducible first | exact HB.out | apply below_alloc | apply pw_below_drewN | apply below_drew1 | refine below_set ?_ GE531.out | refine below_set ?_ GE538.out) | exact HB.out)) hb); clear HO_7; clear HO_539004; clear BK531; clear BK538; clear HB; have HO_7 := n0_; have HO_539004 := n1_; have HO551 := n2_; have BK531 := n3_; have BK538 := n4_; have HB := n5_; clear n0_ n1_ n2_ n3_ n4_ n5_; (try clear hb); (try clear hb2); (try clear hk); (try clear hi); (try clear ho0)))
                                                  have n0_ := Aside0.mk (Kd.R_drew HO_7.out)
                                                  have n1_ := Aside0.mk (Kd.R_drew HO_539004.out)
                                                  have n2_ := Aside0.mk (Kd.R_drew HO551.out)
                                                  have n3_ := Aside0.mk (blk_drew BK531.out)
                                                  have n4_ := Aside0.mk (blk_drew BK538.out)
                                                  have n5_ := Aside0.mk (below_drew1 HB.out)
                                                  clear HO_7
                                                  clear HO_539004
                                                  clear HO551
                                                  clear BK531
                                                  clear BK538
                                                  clear HB
                                                  have HO_7 := n0_
                                                  have HO_539004 := n1_
                                                  have HO551 := n2_
                                                  have BK531 := n3_
                                                  have BK538 := n4_
                                                  have HB := n5_
                                                  clear n0_ n1_ n2_ n3_ n4_ n5_
                                                  obtain ⟨Ao79, co79, eo79⟩ := Kd.R_slice HO551.out
                                                  (first | subst eo79 | (injection eo79 with f1_ f2_ f3_; have f4_ := f1_.symm; have f5_ := f3_.symm; clear f1_ f2_ f3_; subst f4_; subst f5_))
                                                  have q80 : ((ji61) : Int) ≤ ((t549.length : Int) : Int) := of_decide_eq_true (by first | (with_reducible assumption) | assumption)
                                                  obtain ⟨i080, hi080, _, hsz80, _⟩ := info_parts info3
                                                  have hroom80 : t549.length ≤ co79 := (Kd.R_reads' HO551.out).2.1
                                                  have hC80 : Kd.C (Kd.int .i64) _ Ao79 t549.length t549 := (Kd.R_reads' HO551.out).2.2
                                                  have hcut80 := cut_to (P := Try.prog) 25 3 .i64 Try.underlying25 hi080 Ao79 t549.length co79 (ji61) (of_decide_eq_true (by first | (with_reducible assumption) | assumption)) q80 hroom80
                                                  have hr80 := Kd.C_take (m := ((ji61) : Int).toNat) hC80 (by omega)
                                                  have hy80 : y552.length = ((ji61) : Int).toNat := (by rw [Ny552.out, List.length_take]; omega)
                                                  rw [← Ny552.out] at hr80
                                                  rw [← hy80] at hcut80
                                                  have HR555 := Aside0.mk hr80
                                                  have HC555 := Aside0.mk (show y552.length ≤ co79 from by omega)
                                                  clear hr80 hC80 hroom80 hi080 hsz80
                                                  have KY80 := Aside0.mk hy80
                                                  clear hy80
                                                  have KL80 := Aside0.mk (show ((ji61) : Int).toNat ≤ t549.length from by omega)
                                                  replace q80 := eq_true q80
                                                  have q81 : ((ji61) : Int) ≤ ((t535.length : Int) : Int) := of_decide_eq_true (by first | (with_reducible assumption) | assumption)
                                                  obtain ⟨i081, hi081, _, hsz81, _⟩ := info_parts info3
                                                  have hroom81 : t535.length ≤ co28 := (Kd.R_reads' HO_7.out).2.1
                                                  have hC81 : Kd.C (Kd.int .i64) _ Ao28 t535.length t535 := (Kd.R_reads' HO_7.out).2.2
                                                  have hcut81 := cut_to (P := Try.prog) 25 3 .i64 Try.underlying25 hi081 Ao28 t535.length co28 (ji61) (of_decide_eq_true (by first | (with_reducible assumption) | assumption)) q81 hroom81
                                                  have hr81 := Kd.C_take (m := ((ji61) : Int).toNat) hC81 (by omega)
                                                  have hy81 : y556.length = ((ji61) : Int).toNat := (by rw [Ny556.out, List.length_take]; omega)
                                                  rw [← Ny556.out] at hr81
                                                  rw [← hy81] at hcut81
                                                  have HR559 := Aside0.mk hr81
                                                  have HC559 := Aside0.mk (show y556.length ≤ co28 from by omega)
                                                  clear hr81 hC81 hroom81 hi081 hsz81
                                                  have KY81 := Aside0.mk hy81
                                                  clear hy81
                                                  have KL81 := Aside0.mk (show ((ji61) : Int).toNat ≤ t535.length from by omega)
                                                  replace q81 := eq_true q81
                                                  refine start_ (n := 32) (S := fun w' => True) (ds := []) #[false, false, false, false, false, false, false, false, false, false, false, false, false, false, false, false, false, false, false, false, false, false, false, false, false, false, false, false, false, false, false, false] (by kernel_rfl) rfl rfl trivial (fun hHeld => ?_); refine with_tabW phaetonlaw04_FrameLengths.tab18 phaetonlaw04_FrameLengths.bits18 (fun HT_ HW_ => ?_)
                                                  generalize w77.drew = w78 at HO_7 HO_539004 HO551 BK531 BK538 HB HR555 HR559 hHeld ⊢
                                                  refine pure_ (i := 0) (N := some 66) (v := ?_) (a' := ?_) #[true, false, false, false, false, false, false, false, false, false, false, false, false, false, false, false, false, false, false, false, false, false, false, false, false, false, false, false, false, false, false, false] rfl rfl (any_of HT_.out (by kernel_rfl)) (fun _ _ _ h => h) (Or.inl ⟨by rfl, ?_⟩) ?_ ?_
                                                  rotate_left
                                                  · intro w'
                                                    go_simp
                                                    with_reducible rfl
                                                  rotate_left
                                                  · simp only [Act.put, List.setIfInBounds_toArray, List.set_cons_zero, List.set_cons_succ, i64_w, i32_w]
                                                    rfl
                                                  refine pure_ (i := 1) (N := some 67) (v := ?_) (a' := ?_) #[true, true, false, false, false, false, false, false, false, false, false, false, false, false, false, false, false, false, false, false, false, false, false, false, false, false, false, false, false, false, false, false] rfl rfl (any_of HT_.out (by kernel_rfl)) (fun _ _ _ h => h) (Or.inl ⟨by rfl, ?_⟩) ?_ ?_
                                                  rotate_left
                                                  · intro w'
                                                    go_simp
                                                    with_reducible rfl
                                                  rotate_left
                                                  · simp only [Act.put, List.setIfInBounds_toArray, List.set_cons_zero, List.set_cons_succ, i64_w, i32_w]
                                                    rfl
                                                  refine pure_ (i := 2) (N := some 68) (v := ?_) (a' := ?_) #[true, true, true, false, false, false, false, false, false, false, false, false, false, false, false, false, false, false, false, false, false, false, false, false, false, false, false, false, false, false, false, false] rfl rfl (any_of HT_.out (by kernel_rfl)) (fun _ _ _ h => h) (Or.inl ⟨by rfl, ?_⟩) ?_ ?_
                                                  rotate_left
                                                  · intro w'
                                                    go_simp
                                                    with_reducible rfl
                                                  rotate_left
                                                  · simp only [Act.put, List.setIfInBounds_toArray, List.set_cons_zero, List.set_cons_succ, i64_w, i32_w]
                                                    rfl
                                                  refine pure_ (i := 3) (N := some 69) (v := ?_) (a' := ?_) #[true, true, true, true, false, false, false, false, false, false, false, false, false, false, false, false, false, false, false, false, false, false, false, false, false, false, false, false, false, false, false, false] rfl rfl (any_of HT_.out (by kernel_rfl)) (fun _ _ _ h => h) (Or.inl ⟨by rfl, ?_⟩) ?_ ?_
                                                  rotate_left
                                                  · intro w'
                                                    go_simp
                                                    with_reducible rfl
                                                  rotate_left
                                                  · simp only [Act.put, List.setIfInBounds_toArray, List.set_cons_zero, List.set_cons_succ, i64_w, i32_w]
                                                    rfl
                                                  refine pure_ (i := 4) (N := some 70) (v := ?_) (a' := ?_) #[true, true, true, true, true, false, false, false, false, false, false, false, false, false, false, false, false, false, false, false, false, false, false, false, false, false, false, false, false, false, false, false] rfl rfl (any_of HT_.out (by kernel_rfl)) (fun _ _ _ h => h) (Or.inl ⟨by rfl, ?_⟩) ?_ ?_
                                                  rotate_left
                                                  · intro w'
                                                    go_simp
                                                    with_reducible rfl
                                                  rotate_left
                                                  · simp only [Act.put, List.setIfInBounds_toArray, List.set_cons_zero, List.set_cons_succ, i64_w, i32_w]
                                                    rfl
                                                  refine pure_ (i := 5) (N := some 71) (v := ?_) (a' := ?_) #[true, true, true, true, true, true, false, false, false, false, false, false, false, false, false, false, false, false, false, false, false, false, false, false, false, false, false, false, false, false, false, false] rfl rfl (any_of HT_.out (by kernel_rfl)) (fun _ _ _ h => h) (Or.inl ⟨by rfl, ?_⟩) ?_ ?_
                                                  rotate_left
                                                  · intro w'
                                                    go_simp
                                                    with_reducible rfl
                                                  rotate_left
                                                  · simp only [Act.put, List.setIfInBounds_toArray, List.set_cons_zero, List.set_cons_succ, i64_w, i32_w]
                                                    rfl
                                                  refine pure_ (i := 6) (N := some 72) (v := ?_) (a' := ?_) #[true, true, true, true, true, true, true, false, false, false, false, false, false, false, false, false, false, false, false, false, false, false, false, false, false, false, false, false, false, false, false, false] rfl rfl (any_of HT_.out (by kernel_rfl)) (fun _ _ _ h => h) (Or.inl ⟨by rfl, ?_⟩) ?_ ?_
                                                  rotate_left
                                                  · intro w'
                                                    go_simp
                                                    with_reducible rfl
                                                  rotate_left
                                                  · simp only [Act.put, List.setIfInBounds_toArray, List.set_cons_zero, List.set_cons_succ, i64_w, i32_w]
                                                    rfl
                                                  refine pure_ (i := 7) (N := some 73) (v := ?_) (a' := ?_) #[true, true, true, true, true, true, true, true, false, false, false, false, false, false, false, false, false, false, false, false, false, false, false, false, false, false, false, false, false, false, false, false] rfl rfl (any_of HT_.out (by kernel_rfl)) (fun _ _ _ h => h) (Or.inl ⟨by rfl, ?_⟩) ?_ ?_
                                                  rotate_left
                                                  · intro w'
                                                    go_simp
                                                    with_reducible rfl
                                                  rotate_left
                                                  · simp only [Act.put, List.setIfInBounds_toArray, List.set_cons_zero, List.set_cons_succ, i64_w, i32_w]
                                                    rfl
                                                  refine pure_ (i := 8) (N := some 74) (v := ?_) (a' := ?_) #[true, true, true, true, true, true, true, true, true, false, false, false, false, false, false, false, false, false, false, false, false, false, false, false, false, false, false, false, false, false, false, false] rfl rfl (any_of HT_.out (by kernel_rfl)) (fun _ _ _ h => h) (Or.inl ⟨by rfl, ?_⟩) ?_ ?_
                                                  rotate_left
                                                  · intro w'
                                                    go_simp
                                                    with_reducible rfl
                                                  rotate_left
                                                  · simp only [Act.put, List.setIfInBounds_toArray, List.set_cons_zero, List.set_cons_succ, i64_w, i32_w]
                                                    rfl
                                                  refine pure_ (i := 9) (N := some 75) (v := ?_) (a' := ?_) #[true, true, true, true, true, true, true, true, true, true, false, false, false, false, false, false, false, false, false, false, false, false, false, false, false, false, false, false, false, false, false, false] rfl rfl (any_of HT_.out (by kernel_rfl)) (fun _ _ _ h => h) (Or.inl ⟨by rfl, ?_⟩) ?_ ?_
                                                  rotate_left
                                                  · intro w'
                                                    go_simp
                                                    with_reducible rfl
                                                  rotate_left
                                                  · simp only [Act.put, List.setIfInBounds_toArray, List.set_cons_zero, List.set_cons_succ, i64_w, i32_w]
                                                    rfl
                                                  refine pure_ (i := 10) (N := some 76) (v := ?_) (a' := ?_) #[true, true, true, true, true, true, true, true, true, true, true, false, false, false, false, false, false, false, false, false, false, false, false, false, false, false, false, false, false, false, false, false] rfl rfl (any_of HT_.out (by kernel_rfl)) (fun _ _ _ h => h) (Or.inl ⟨by rfl, ?_⟩) ?_ ?_
                                                  rotate_left
                                                  · intro w'
                                                    go_simp
                                                    with_reducible rfl
                                                  rotate_left
                                                  · simp only [Act.put, List.setIfInBounds_toArray, List.set_cons_zero, List.set_cons_succ, i64_w, i32_w]
                                                    rfl
                                                  refine pure_ (i := 11) (N := some 77) (v := ?_) (a' := ?_) #[true, true, true, true, true, true, true, true, true, true, true, true, false, false, false, false, false, false, false, false, false, false, false, false, false, false, false, false, false, false, false, false] rfl rfl (any_of HT_.out (by kernel_rfl)) (fun _ _ _ h => h) (Or.inl ⟨by rfl, ?_⟩) ?_ ?_
                                                  rotate_left
                                                  · intro w'
                                                    go_simp
                                                    with_reducible rfl
                                                  rotate_left
                                                  · simp only [Act.put, List.setIfInBounds_toArray, List.set_cons_zero, List.set_cons_succ, i64_w, i32_w]
                                                    rfl
                                                  refine pure_ (i := 12) (N := some 78) (v := ?_) (a' := ?_) #[true, true, true, true, true, true, true, true, true, true, true, true, true, false, false, false, false, false, false, false, false, false, false, false, false, false, false, false, false, false, false, false] rfl rfl (any_of HT_.out (by kernel_rfl)) (fun _ _ _ h => h) (Or.inl ⟨by rfl, ?_⟩) ?_ ?_
                                                  rotate_left
                                                  · intro w'
                                                    go_simp
                                                    with_reducible rfl
                                                  rotate_left
                                                  · simp only [Act.put, List.setIfInBounds_toArray, List.set_cons_zero, List.set_cons_succ, i64_w, i32_w]
                                                    rfl
                                                  refine pure_ (i := 13) (N := some 79) (v := ?_) (a' := ?_) #[true, true, true, true, true, true, true, true, true, true, true, true, true, true, false, false, false, false, false, false, false, false, false, false, false, false, false, false, false, false, false, false] rfl rfl (any_of HT_.out (by kernel_rfl)) (fun _ _ _ h => h) (Or.inl ⟨by rfl, ?_⟩) ?_ ?_
                                                  rotate_left
                                                  · intro w'
                                                    go_simp
                                                    with_reducible rfl
                                                  rotate_left
                                                  · simp only [Act.put, List.setIfInBounds_toArray, List.set_cons_zero, List.set_cons_succ, i64_w, i32_w]
                                                    rfl
                                                  refine pure_ (i := 14) (N := some 80) (v := ?_) (a' := ?_) #[true, true, true, true, true, true, true, true, true, true, true, true, true, true, true, false, false, false, false, false, false, false, false, false, false, false, false, false, false, false, false, false] rfl rfl (any_of HT_.out (by kernel_rfl)) (fun _ _ _ h => h) (Or.inl ⟨by rfl, ?_⟩) ?_ ?_
                                                  rotate_left
                                                  · intro w'
                                                    go_simp
                                                    with_reducible rfl
                                                  rotate_left
                                                  · simp only [Act.put, List.setIfInBounds_toArray, List.set_cons_zero, List.set_cons_succ, i64_w, i32_w]
                                                    rfl
                                                  refine pure_ (i := 15) (N := some 81) (v := ?_) (a' := ?_) #[true, true, true, true, true, true, true, true, true, true, true, true, true, true, true, true, false, false, false, false, false, false, false, false, false, false, false, false, false, false, false, false] rfl rfl (any_of HT_.out (by kernel_rfl)) (fun _ _ _ h => h) (Or.inl ⟨by rfl, ?_⟩) ?_ ?_
                                                  rotate_left
                                                  · intro w'
                                                    go_simp
                                                    with_reducible rfl
                                                  rotate_left
                                                  · simp only [Act.put, List.setIfInBounds_toArray, List.set_cons_zero, List.set_cons_succ, i64_w, i32_w]
                                                    rfl
                                                  refine pure_ (i := 16) (N := some 82) (v := ?_) (a' := ?_) #[true, true, true, true, true, true, true, true, true, true, true, true, true, true, true, true, true, false, false, false, false, false, false, false, false, false, false, false, false, false, false, false] rfl rfl (any_of HT_.out (by kernel_rfl)) (fun _ _ _ h => h) (Or.inl ⟨by rfl, ?_⟩) ?_ ?_
                                                  rotate_left
                                                  · intro w'
                                                    go_simp
                                                    with_reducible rfl
                                                  rotate_left
                                                  · simp only [Act.put, List.setIfInBounds_toArray, List.set_cons_zero, List.set_cons_succ, i64_w, i32_w]
                                                    rfl
                                                  refine pure_ (i := 17) (N := some 83) (v := ?_) (a' := ?_) #[true, true, true, true, true, true, true, true, true, true, true, true, true, true, true, true, true, true, false, false, false, false, false, false, false, false, false, false, false, false, false, false] rfl rfl (any_of HT_.out (by kernel_rfl)) (fun _ _ _ h => h) (Or.inl ⟨by rfl, ?_⟩) ?_ ?_
                                                  rotate_left
                                                  · intro w'
                                                    go_simp
                                                    with_reducible rfl
                                                  rotate_left
                                                  · simp only [Act.put, List.setIfInBounds_toArray, List.set_cons_zero, List.set_cons_succ, i64_w, i32_w]
                                                    rfl
                                                  refine one_ (i := 18) (N := some 84) #[true, true, true, true, true, true, true, true, true, true, true, true, true, true, true, true, true, true, true, false, false, false, false, false, false, false, false, false, false, false, false, false] rfl rfl (one_of HT_.out (by kernel_rfl)) (by decide) (fun K hK => ?_)
                                                  refine goes_ Try.func16 (by kernel_rfl) rfl #[.slice Ao79 y552.length co79, .slice Ao28 y556.length co28] (by rfl) rfl rfl (by (try simp only [List.map_toArray, List.map_cons, List.map_nil]); first | done | rfl | (simp only [List.length_drop, List.length_take]; rfl)) ?_
                                                  with_reducible refine (phaetonref01_Same.calls kj49 _ _ y552 _ _ y556 true _ ?side1 ?side2 ?side3 ?side4 A66.out).mono ?_
                                                  (case side1 => repeat (first | exact (by repeat (first | (with_reducible exact HR555.out) | (with_reducible refine Kd.C_alloc ?_ _) | (with_reducible refine Kd.C_drewN ?_ _) | (with_reducible refine Kd.C_drew ?_) | exact HR555.out)) | (with_reducible refine Kd.C_alloc ?_ _) | (with_reducible refine Kd.C_drewN ?_ _) | (with_reducible refine Kd.C_drew ?_)))
                                                  (case side2 => exact HC555.out)
                                                  (case side3 => repeat (first | exact (by repeat (first | (with_reducible exact HR559.out) | (with_reducible refine Kd.C_alloc ?_ _) | (with_reducible refine Kd.C_drewN ?_ _) | (with_reducible refine Kd.C_drew ?_) | exact HR559.out)) | (with_reducible refine Kd.C_alloc ?_ _) | (with_reducible refine Kd.C_drewN ?_ _) | (with_reducible refine Kd.C_drew ?_)))
                                                  (case side4 => exact HC559.out)
                                                  rintro e w' ⟨rfl, ⟨nd, rfl⟩⟩
                                                  refine ⟨_, rfl, ?_⟩
                                                  have q82 : ((t535.length : Int) : Int) ≤ ((t549.length : Int) : Int) := of_decide_eq_true (by first | (with_reducible assumption) | assumption)
                                                  obtain ⟨i082, hi082, _, hsz82, _⟩ := info_parts info3
                                                  have hroom82 : t549.length ≤ co79 := (Kd.R_reads' HO551.out).2.1
                                                  have hC82 : Kd.C (Kd.int .i64) _ Ao79 t549.length t549 := (Kd.R_reads' HO551.out).2.2
                                                  have ql82 : (x6_17 : Int) ≤ ((t535.length : Int) : Int) := of_decide_eq_true (by first | (with_reducible assumption) | assumption)
                                                  have q082 : (0 : Int) ≤ (x6_17 : Int) := of_decide_eq_true (by first | (with_reducible assumption) | assumption)
                                                  have hcut82 := cut_mid (P := Try.prog) 25 3 .i64 .i64 Try.underlying25 hi082 1 hsz82 Ao79 t549.length co79 x6_17 (t535.length : Int) q082 ql82 q82 hroom82
                                                  have hr82 := Kd.C_mid (lo := (x6_17 : Int).toNat) (hi := ((t535.length : Int) : Int).toNat) (c := co79) hC82 (by omega) (by omega) hroom82
                                                  obtain ⟨A82, hA82⟩ : ∃ A1, A1 = (if co79 = (x6_17 : Int).toNat then Ao79 else (Ao79 : Option Addr).map (·.add ((x6_17 : Int).toNat * 1))) := ⟨_, rfl⟩
                                                  obtain ⟨c82, hc82⟩ : ∃ c1, c1 = co79 - (x6_17 : Int).toNat := ⟨_, rfl⟩
                                                  have hy82 : y561.length = ((t535.length : Int) : Int).toNat - (x6_17 : Int).toNat := (by rw [Ny561.out, List.length_drop, List.length_take] <;> omega)
                                                  rw [show ((t549).take ((t535.length : Int) : Int).toNat).drop (x6_17 : Int).toNat = y561 from Ny561.out.symm] at hr82
                                                  replace hr82 : Kd.C (Kd.int .i64) _ A82 y561.length y561 := (by rw [hA82]; exact hr82)
                                                  rw [← hy82, ← hA82, ← hc82] at hcut82
                                                  have HR564 := Aside0.mk hr82
                                                  have HC564 := Aside0.mk (show y561.length ≤ c82 from by rw [hy82, hc82]; exact Nat.sub_le_sub_right (Nat.le_trans (by omega) hroom82) _)
                                                  clear hr82 hC82 hroom82 hi082 hsz82 hc82
                                                  have KY82 := Aside0.mk hy82
                                                  have KA82 := Aside0.mk hA82
                                                  clear hy82 hA82
                                                  have KL82 := Aside0.mk (show ((t535.length : Int) : Int).toNat ≤ t549.length from by omega)
                                                  have KM82 := Aside0.mk (show (x6_17 : Int).toNat ≤ ((t535.length : Int) : Int).toNat from by omega)
                                                  replace q82 := eq_true q82
                                                  have q83 : (x6_17 : Int) ≤ ((t535.length : Int) : Int) := of_decide_eq_true (by first | (with_reducible assumption) | assumption)
                                                  obtain ⟨i083, hi083, _, hsz83, _⟩ := info_parts info3
                                                  have hroom83 : t535.length ≤ co28 := (Kd.R_reads' HO_7.out).2.1
                                                  have hC83 : Kd.C (Kd.int .i64) _ Ao28 t535.length t535 := (Kd.R_reads' HO_7.out).2.2
                                                  have q083 : (0 : Int) ≤ (x6_17 : Int) := of_decide_eq_true (by first | (with_reducible assumption) | assumption)
                                                  have hcut83 := cut_from (P := Try.prog) 25 3 .i64 Try.underlying25 hi083 1 hsz83 Ao28 t535.length co28 x6_17 q083 q83
                                                  have hr83 := Kd.C_drop (m := (x6_17 : Int).toNat) (c := co28) hC83 (by omega) hroom83
                                                  obtain ⟨A83, hA83⟩ : ∃ A1, A1 = (if co28 = (x6_17 : Int).toNat then Ao28 else (Ao28 : Option Addr).map (·.add ((x6_17 : Int).toNat * 1))) := ⟨_, rfl⟩
                                                  obtain ⟨c83, hc83⟩ : ∃ c1, c1 = co28 - (x6_17 : Int).toNat := ⟨_, rfl⟩
                                                  have hy83 : y565.length = t535.length - (x6_17 : Int).toNat := (by rw [Ny565.out, List.length_drop] <;> omega)
                                                  rw [show (t535).drop (x6_17 : Int).toNat = y565 from Ny565.out.symm] at hr83
                                                  replace hr83 : Kd.C (Kd.int .i64) _ A83 y565.length y565 := (by rw [hA83]; exact hr83)
                                                  rw [← hy83, ← hA83, ← hc83] at hcut83
                                                  have HR568 := Aside0.mk hr83
                                                  have HC568 := Aside0.mk (show y565.length ≤ c83 from by rw [hy83, hc83]; exact Nat.sub_le_sub_right hroom83 _)
                                                  clear hr83 hC83 hroom83 hi083 hsz83 hc83
                                                  have KY83 := Aside0.mk hy83
                                                  have KA83 := Aside0.mk hA83
                                                  clear hy83 hA83
                                                  have KL83 := Aside0.mk (show (x6_17 : Int).toNat ≤ t535.length from by omega)
                                                  replace q83 := eq_true q83
                                                  refine hK.out _ _ trivial (fun hHeld => ?_)
                                                  clear hK K
                                                  refine norm_ (a' := ?_) ?_ ?_
                                                  rotate_left
                                                  · show Act.put _ (some 84) _ = _
                                                    simp only [Act.put, List.setIfInBounds_toArray, List.set_cons_zero, List.set_cons_succ, i64_w, i32_w]
                                                    rfl
                                                  refine pure_ (i := 19) (N := some 85) (v := ?_) (a' := ?_) #[true, true, true, true, true, true, true, true, true, true, true, true, true, true, true, true, true, true, true, true, false, false, false, false, false, false, false, false, false, false, false, false] rfl rfl (any_of HT_.out (by kernel_rfl)) (fun _ _ _ h => h) (Or.inl ⟨by rfl, ?_⟩) ?_ ?_
                                                  rotate_left
                                                  · intro w'
                                                    go_simp
                                                    with_reducible rfl
                                                  rotate_left
                                                  · simp only [Act.put, List.setIfInBounds_toArray, List.set_cons_zero, List.set_cons_succ, i64_w, i32_w]
                                                    rfl
                                                  refine pure_ (i := 20) (N := some 86) (v := ?_) (a' := ?_) #[true, true, true, true, true, true, true, true, true, true, true, true, true, true, true, true, true, true, true, true, true, false, false, false, false, false, false, false, false, false, false, false] rfl rfl (any_of HT_.out (by kernel_rfl)) (fun _ _ _ h => h) (Or.inl ⟨by rfl, ?_⟩) ?_ ?_
                                                  rotate_left
                                                  · intro w'
                                                    go_simp
                                                    with_reducible rfl
                                                  rotate_left
                                                  · simp only [Act.put, List.setIfInBounds_toArray, List.set_cons_zero, List.set_cons_succ, i64_w, i32_w]
                                                    rfl
                                                  refine pure_ (i := 21) (N := some 87) (v := ?_) (a' := ?_) #[true, true, true, true, true, true, true, true, true, true, true, true, true, true, true, true, true, true, true, true, true, true, false, false, false, false, false, false, false, false, false, false] rfl rfl (any_of HT_.out (by kernel_rfl)) (fun _ _ _ h => h) (Or.inl ⟨by rfl, ?_⟩) ?_ ?_
                                                  rotate_left
                                                  · intro w'
                                                    go_simp
                                                    with_reducible rfl
                                                  rotate_left
                                                  · simp only [Act.put, List.setIfInBounds_toArray, List.set_cons_zero, List.set_cons_succ, i64_w, i32_w]
                                                    rfl
                                                  refine pure_ (i := 22) (N := some 88) (v := ?_) (a' := ?_) #[true, true, true, true, true, true, true, true, true, true, true, true, true, true, true, true, true, true, true, true, true, true, true, false, false, false, false, false, false, false, false, false] rfl rfl (any_of HT_.out (by kernel_rfl)) (fun _ _ _ h => h) (Or.inl ⟨by rfl, ?_⟩) ?_ ?_
                                                  rotate_left
                                                  · intro w'
                                                    go_simp
                                                    with_reducible rfl
                                                  rotate_left
                                                  · simp only [Act.put, List.setIfInBounds_toArray, List.set_cons_zero, List.set_cons_succ, i64_w, i32_w]
                                                    rfl
                                                  refine pure_ (i := 23) (N := some 89) (v := ?_) (a' := ?_) #[true, true, true, true, true, true, true, true, true, true, true, true, true, true, true, true, true, true, true, true, true, true, true, true, false, false, false, false, false, false, false, false] rfl rfl (any_of HT_.out (by kernel_rfl)) (fun _ _ _ h => h) (Or.inl ⟨by rfl, ?_⟩) ?_ ?_
                                                  rotate_left
                                                  · intro w'
                                                    go_simp
                                                    with_reducible rfl
                                                  rotate_left
                                                  · simp only [Act.put, List.setIfInBounds_toArray, List.set_cons_zero, List.set_cons_succ, i64_w, i32_w]
                                                    rfl
                                                  refine pure_ (i := 24) (N := some 90) (v := ?_) (a' := ?_) #[true, true, true, true, true, true, true, true, true, true, true, true, true, true, true, true, true, true, true, true, true, true, true, true, true, false, false, false, false, false, false, false] rfl rfl (any_of HT_.out (by kernel_rfl)) (fun _ _ _ h => h) (Or.inl ⟨by rfl, ?_⟩) ?_ ?_
                                                  rotate_left
                                                  · intro w'
                                                    go_simp
                                                    with_reducible rfl
                                                  rotate_left
                                                  · simp only [Act.put, List.setIfInBounds_toArray, List.set_cons_zero, List.set_cons_succ, i64_w, i32_w]
                                                    rfl
                                                  refine pure_ (i := 25) (N := some 91) (v := ?_) (a' := ?_) #[true, true, true, true, true, true, true, true, true, true, true, true, true, true, true, true, true, true, true, true, true, true, true, true, true, true, false, false, false, false, false, false] rfl rfl (any_of HT_.out (by kernel_rfl)) (fun _ _ _ h => h) (Or.inl ⟨by rfl, ?_⟩) ?_ ?_
                                                  rotate_left
                                                  · intro w'
                                                    go_simp
                                                    with_reducible rfl
                                                  rotate_left
                                                  · simp only [Act.put, List.setIfInBounds_toArray, List.set_cons_zero, List.set_cons_succ, i64_w, i32_w]
                                                    rfl
                                                  refine pure_ (i := 26) (N := some 92) (v := ?_) (a' := ?_) #[true, true, true, true, true, true, true, true, true, true, true, true, true, true, true, true, true, true, true, true, true, true, true, true, true, true, true, false, false, false, false, false] rfl rfl (any_of HT_.out (by kernel_rfl)) (fun _ _ _ h => h) (Or.inl ⟨by rfl, ?_⟩) ?_ ?_
                                                  rotate_left
                                                  · intro w'
                                                    go_simp
                                                    with_reducible rfl
                                                  rotate_left
                                                  · simp only [Act.put, List.setIfInBounds_toArray, List.set_cons_zero, List.set_cons_succ, i64_w, i32_w]
                                                    rfl
                                                  refine pure_ (i := 27) (N := some 93) (v := ?_) (a' := ?_) #[true, true, true, true, true, true, true, true, true, true, true, true, true, true, true, true, true, true, true, true, true, true, true, true, true, true, true, true, false, false, false, false] rfl rfl (any_of HT_.out (by kernel_rfl)) (fun _ _ _ h => h) (Or.inl ⟨by rfl, ?_⟩) ?_ ?_
                                                  rotate_left
                                                  · intro w'
                                                    go_simp
                                                    with_reducible rfl
                                                  rotate_left
                                                  · simp only [Act.put, List.setIfInBounds_toArray, List.set_cons_zero, List.set_cons_succ, i64_w, i32_w]
                                                    rfl
                                                  refine pure_ (i := 28) (N := some 94) (v := ?_) (a' := ?_) #[true, true, true, true, true, true, true, true, true, true, true, true, true, true, true, true, true, true, true, true, true, true, true, true, true, true, true, true, true, false, false, false] rfl rfl (any_of HT_.out (by kernel_rfl)) (fun _ _ _ h => h) (Or.inl ⟨by rfl, ?_⟩) ?_ ?_
                                                  rotate_left
                                                  · intro w'
                                                    go_simp
                                                    with_reducible rfl
                                                  rotate_left
                                                  · simp only [Act.put, List.setIfInBounds_toArray, List.set_cons_zero, List.set_cons_succ, i64_w, i32_w]
                                                    rfl
                                                  refine one_ (i := 29) (N := some 95) #[true, true, true, true, true, true, true, true, true, true, true, true, true, true, true, true, true, true, true, true, true, true, true, true, true, true, true, true, true, true, false, false] rfl rfl (one_of HT_.out (by kernel_rfl)) (by decide) (fun K hK => ?_)
                                                  refine goes_ Try.func16 (by kernel_rfl) rfl #[.slice A82 y561.length c82, .slice A83 y565.length c83] (by rfl) rfl rfl (by (try simp only [List.map_toArray, List.map_cons, List.map_nil]); first | done | rfl | (simp only [List.length_drop, List.length_take]; rfl)) ?_
                                                  with_reducible refine (phaetonref01_Same.calls kj49 _ _ y561 _ _ y565 true _ ?side1 ?side2 ?side3 ?side4 A73.out).mono ?_
                                                  (case side1 => repeat (first | exact (by repeat (first | (with_reducible exact HR564.out) | (with_reducible refine Kd.C_alloc ?_ _) | (with_reducible refine Kd.C_drewN ?_ _) | (with_reducible refine Kd.C_drew ?_) | exact HR564.out)) | (with_reducible refine Kd.C_alloc ?_ _) | (with_reducible refine Kd.C_drewN ?_ _) | (with_reducible refine Kd.C_drew ?_)))
                                                  (case side2 => exact HC564.out)
                                                  (case side3 => repeat (first | exact (by repeat (first | (with_reducible exact HR568.out) | (with_reducible refine Kd.C_alloc ?_ _) | (with_reducible refine Kd.C_drewN ?_ _) | (with_reducible refine Kd.C_drew ?_) | exact HR568.out)) | (with_reducible refine Kd.C_alloc ?_ _) | (with_reducible refine Kd.C_drewN ?_ _) | (with_reducible refine Kd.C_drew ?_)))
                                                  (case side4 => exact HC568.out)
                                                  rintro e w' ⟨rfl, ⟨nd, rfl⟩⟩
                                                  refine ⟨_, rfl, ?_⟩
                                                  refine hK.out _ _ trivial (fun hHeld => ?_)
                                                  clear hK K
                                                  refine norm_ (a' := ?_) ?_ ?_
                                                  rotate_left
                                                  · show Act.put _ (some 95) _ = _
                                                    simp only [Act.put, List.setIfInBounds_toArray, List.set_cons_zero, List.set_cons_succ, i64_w, i32_w]
                                                    rfl
                                                  refine pure_ (i := 30) (N := some 96) (v := ?_) (a' := ?_) #[true, true, true, true, true, true, true, true, true, true, true, true, true, true, true, true, true, true, true, true, true, true, true, true, true, true, true, true, true, true, true, false] rfl rfl (any_of HT_.out (by kernel_rfl)) (fun _ _ _ h => h) (Or.inl ⟨by rfl, ?_⟩) ?_ ?_
                                                  rotate_left
                                                  · intro w'
                                                    go_simp
                                                    with_reducible rfl
                                                  rotate_left
                                                  · simp only [Act.put, List.setIfInBounds_toArray, List.set_cons_zero, List.set_cons_succ, i64_w, i32_w]
                                                    rfl
                                                  refine pure_ (i := 31) (N := some 4) (v := ?_) (a' := ?_) #[true, true, true, true, true, true, true, true, true, true, true, true, true, true, true, true, true, true, true, true, true, true, true, true, true, true, true, true, true, true, true, true] rfl rfl (any_of HT_.out (by kernel_rfl)) (fun _ _ _ h => h) (Or.inl ⟨by rfl, ?_⟩) ?_ ?_
                                                  rotate_left
                                                  · intro w'
                                                    go_simp
                                                    with_reducible rfl
                                                  rotate_left
                                                  · simp only [Act.put, List.setIfInBounds_toArray, List.set_cons_zero, List.set_cons_succ, i64_w, i32_w]
                                                    rfl
                                                  refine done_ (done_of HT_.out (by kernel_rfl)) ?_
                                                  try go_wp2
                                                  go_ret
                                                  exact ⟨by first | rfl | (simp [errW_none, errW_some] <;> rfl) | (simp only [← hji61]; first | rfl | (simp [errW_none, errW_some] <;> rfl)) | (simp [*, errW_none, errW_some] <;> rfl), by repeat (first | (with_reducible first | exact HB.out | apply below_alloc | apply pw_below_drewN | apply below_drew1 | refine below_set ?_ GE531.out | refine below_set ?_ GE538.out) | exact HB.out)⟩
                                                · replace c74 := Bool.eq_false_iff.mpr c74
                                                  subst c74
                                                  have H1 : (none) = some r := by rw [if_neg (show ¬ (false = true) by decide)] at H; exact H
                                                  clear H
                                                  have H := H1
                                                  clear H1
                                                  exact absurd H (by simp)
                                              · rw [if_neg c70] at H
                                                exact absurd H (by simp)
                                            · rw [if_neg c69] at H
                                              exact absurd H (by simp)
                                          · rw [if_neg c68] at H
                                            exact absurd H (by simp)
                                        · replace c67 := Bool.eq_false_iff.mpr c67
                                          subst c67
                                          have H1 : (none) = some r := by rw [if_neg (show ¬ (false = true) by decide)] at H; exact H
                                          clear H
                                          have H := H1
                                          clear H1
                                          exact absurd H (by simp)
                                      · rw [if_neg c65] at H
                                        exact absurd H (by simp)
                                    · rw [if_neg c63] at H
                                      exact absurd H (by simp)
                                  · rw [if_neg c62] at H
                                    exact absurd H (by simp)
                                · rw [if_neg c60] at H
                                  have c60b0 : ((t549.length : Int) == (wrap64 ((t535.length : Int) + 8))) = false := beq_eq_false_iff_ne.mpr c60
                                  have c60b1 : ((t549.length : Int) != (wrap64 ((t535.length : Int) + 8))) = true := bne_iff_ne.mpr c60
                                  exact absurd H (by simp)
                              · replace c59 := Bool.eq_false_iff.mpr c59
                                subst c59
                                have H1 : (none) = some r := by rw [if_neg (show ¬ (false = true) by decide)] at H; exact H
                                clear H
                                have H := H1
                                clear H1
                                exact absurd H (by simp)
                · rw [if_neg c24] at H
                  exact absurd H (by simp)
              · rw [if_neg c23] at H
                exact absurd H (by simp)
            · rw [if_neg c22] at H
              exact absurd H (by simp)

/-- THE ONE PURE STATEMENT of phaetonlaw04_FrameLengths. -/
def phaetonlaw04_FrameLengths.Pure : Prop := ∀ (a0_0 : Bool) (a0_1 : Int) (a0_2 : Bool) (a0_3 : Int) (l0_4 : List Int) (a1 : Int), (Lit.int .i64 a0_1).wf = true → (Lit.int .i64 a0_3).wf = true → l0_4.length ≤ maxLen → (∀ x ∈ l0_4, (fun (x : Int) => (Lit.int .u8 x).wf = true) x) → (Lit.int .u8 a1).wf = true → ∃ k, phaetonlaw04_FrameLengths.f k a0_0 a0_1 a0_2 a0_3 l0_4 a1 = some true
theorem phaetonlaw04_FrameLengths.walk (P : phaetonlaw04_FrameLengths.Pure) (a0_0 : Bool) (a0_1 : Int) (a0_2 : Bool) (a0_3 : Int) (A0_4 : Option Addr) (c0_4 : Nat) (l0_4 : List Int) (a1 : Int) (w : World) (hw0_1 : (Lit.int .i64 a0_1).wf = true) (hw0_3 : (Lit.int .i64 a0_3).wf = true) (hw0_4 : ∀ x ∈ l0_4, (fun (x : Int) => (Lit.int .u8 x).wf = true) x) (hr0_4 : Kd.C (Kd.int .u8) w A0_4 l0_4.length l0_4) (hc0_4 : l0_4.length ≤ c0_4) (hw1 : (Lit.int .u8 a1).wf = true) :
    Calls Try.prog 8 #[.agg #[.bool a0_0, .int .i64 a0_1, .bool a0_2, .int .i64 a0_3, .slice A0_4 l0_4.length c0_4], .int .u8 a1] w fun e w' => e = .returned (.bool true) ∧ Below w.heap.size w w' := by
  obtain ⟨k, h⟩ := P a0_0 a0_1 a0_2 a0_3 l0_4 a1 hw0_1 hw0_3 (by have := hr0_4.2.1; unfold maxLen; omega) hw0_4 hw1
  refine (phaetonlaw04_FrameLengths.calls k a0_0 a0_1 a0_2 a0_3 _ _ l0_4 a1 true w hr0_4 hc0_4 h).mono ?_
  rintro e w' ⟨rfl, hd⟩
  exact ⟨rfl, hd⟩

end Go.Proofs.Ytiphbgcmbbfpmaa.Px

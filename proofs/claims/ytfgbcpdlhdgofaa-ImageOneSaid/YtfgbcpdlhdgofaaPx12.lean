-- Written by myprint.py, a program of this session's, over the kit's print.py; not a text of print.sh's own.
import Derived.Test.YtfgbcpdlhdgofaaPx0
import Derived.Test.YtfgbcpdlhdgofaaPx2
import Derived.Test.YtfgbcpdlhdgofaaPx4
import Derived.Test.YtfgbcpdlhdgofaaPx6
namespace Go.Proofs.Ytfgbcpdlhdgofaa.Px
open Go.RowKit Go.Proofs.YtfgbcpdlhdgofaaW.PrintWords Go.Proofs.YtfgbcpdlhdgofaaW.PrintLast Go.Proofs.YtfgbcpdlhdgofaaW.PrintMore
attribute [local go_sem] max2_int min2_int max_two min_two max_three min_three max_four min_four   -- for this text's walks alone
set_option linter.unusedVariables false
set_option linter.unusedSimpArgs false

/-! ### phaetonlaw24_ImageOne: function 10 -/
def phaetonlaw24_ImageOne.j0 : Nat → Bool → List Int → Bool → List Int → Bool → Bool → Option (Bool)
  | 0, _, _, _, _, _, _ => none
  | k + 1, x7, x8, x9, x12, x13, x54 => if x54 = true then (none) else (if x9 = true then (if x13 = true then (if (x8.length : Int) < 18 then (none) else (if (x12.length : Int) < 18 then (none) else (if 14 ≤ 18 then (if 18 ≤ (x8.length : Int) then (if 18 ≤ (x12.length : Int) then (if (((strOfNums x8).toList == (strOfNums x12).toList) == ((strOfNums ((x8.take 18).drop 14)).toList == (strOfNums ((x12.take 18).drop 14)).toList)) = true then (if x7 = true then (some true) else (none)) else (none)) else (none)) else (none)) else (none)))) else (if x7 = true then (some true) else (none))) else (if x7 = true then (some true) else (none)))
def phaetonlaw24_ImageOne.f (k : Nat) (a0_0 : Int) (l0_1 : List Int) (a1_0 : Int) (l1_1 : List Int) (a2_0 : Int) (a2_1 : Int) : Option (Bool) := (phaetonlaw24_head.f k).bind fun t516 => ((phaetonlaw24_Cut.f a0_0 l0_1).bind fun bt517 => ((phaetonlaw24_Cut.f a1_0 l1_1).bind fun bt521 => ((image_Pack.f k bt517.1 bt517.2 a2_0).bind fun bt525 => ((image_Pack.f k bt521.1 bt521.2 a2_0).bind fun bt529 => ((image_Pack.f k bt517.1 bt517.2 a2_1).bind fun bt533 => (if bt525.2 = true then (if bt529.2 = true then ((phaetonref24_Same.f bt517.1 bt517.2 bt521.1 bt521.2).bind fun t537 => (phaetonlaw24_ImageOne.j0 k t516 bt525.1 bt525.2 bt533.1 bt533.2 (((strOfNums bt525.1).toList == (strOfNums bt529.1).toList) != t537))) else (phaetonlaw24_ImageOne.j0 k t516 bt525.1 bt525.2 bt533.1 bt533.2 false)) else (phaetonlaw24_ImageOne.j0 k t516 bt525.1 bt525.2 bt533.1 bt533.2 false)))))))
theorem phaetonlaw24_ImageOne.mono_l : ∀ k, (∀ y0 y1 y2 y3 y4 y5, LeO (phaetonlaw24_ImageOne.j0 k y0 y1 y2 y3 y4 y5) (phaetonlaw24_ImageOne.j0 (k + 1) y0 y1 y2 y3 y4 y5))
  | 0 => fun _ _ _ _ _ _ r h => by simp [phaetonlaw24_ImageOne.j0] at h
  | k + 1 => by
    have ih0 := phaetonlaw24_ImageOne.mono_l k
    · intro y0 y1 y2 y3 y4 y5
      unfold phaetonlaw24_ImageOne.j0
      repeat' first
      | (with_reducible exact ih0 _ _ _ _ _ _)
      | (with_reducible exact image_Pack.mono _ _ _ _)
      | (with_reducible exact phaetonlaw24_head.mono _)
      | (with_reducible exact LeO.refl _)
      | (with_reducible exact LeO.none _)
      | (with_reducible refine LeO.ite ?_ ?_)
      | (with_reducible refine LeO.bind ?_ (fun _ => ?_))
      | exact ih0 _ _ _ _ _ _
      | exact image_Pack.mono _ _ _ _
      | exact phaetonlaw24_head.mono _
      | exact LeO.none _
      | refine LeO.ite ?_ ?_
      | refine LeO.bind ?_ (fun _ => ?_)
theorem phaetonlaw24_ImageOne.mono : ∀ a0 a1 a2 a3 a4 a5 k, LeO (phaetonlaw24_ImageOne.f k a0 a1 a2 a3 a4 a5) (phaetonlaw24_ImageOne.f (k + 1) a0 a1 a2 a3 a4 a5) := by
  intro a0 a1 a2 a3 a4 a5 k
  have ih0 := phaetonlaw24_ImageOne.mono_l k
  unfold phaetonlaw24_ImageOne.f
  repeat' first
      | (with_reducible exact ih0 _ _ _ _ _ _)
      | (with_reducible exact image_Pack.mono _ _ _ _)
      | (with_reducible exact phaetonlaw24_head.mono _)
      | (with_reducible exact LeO.refl _)
      | (with_reducible exact LeO.none _)
      | (with_reducible refine LeO.ite ?_ ?_)
      | (with_reducible refine LeO.bind ?_ (fun _ => ?_))
      | exact ih0 _ _ _ _ _ _
      | exact image_Pack.mono _ _ _ _
      | exact phaetonlaw24_head.mono _
      | exact LeO.none _
      | refine LeO.ite ?_ ?_
      | refine LeO.bind ?_ (fun _ => ?_)
def phaetonlaw24_ImageOne.T7 : Bool × List (List Nat × List Nat) := (true, [([], []), ([0], [0]), ([1], [1]), ([1, 2], [1, 2]), ([3, 1], [3]), ([4], [4]), ([5, 4], [4, 5]), ([4], [4]), ([7, 4], [4, 7]), ([6, 8, 4], [4, 6, 8]), ([4], [4]), ([4], [4]), ([10, 11, 4, 4], [4, 10, 11]), ([9, 12, 4], [4, 9, 12]), ([4, 13], [4, 13])])
def phaetonlaw24_ImageOne.B7 : List Nat := [0, 1, 3, 7, 15, 31, 63, 31, 159, 511, 31, 31, 3103, 8191, 16383]
theorem phaetonlaw24_ImageOne.tab7 : rtab .any (opsOf Try.f10 7) = phaetonlaw24_ImageOne.T7 := by kernel_rfl
theorem phaetonlaw24_ImageOne.bits7 : waitsOk phaetonlaw24_ImageOne.T7.2 phaetonlaw24_ImageOne.B7 = true := by kernel_rfl
def phaetonlaw24_ImageOne.T11 : Bool × List (List Nat × List Nat) := (true, [([], []), ([0], [0]), ([], []), ([2], [2]), ([1, 3], [1, 3]), ([], []), ([5], [5]), ([6], [6]), ([], []), ([8], [8]), ([9], [9]), ([7, 10], [7, 10]), ([4, 11], [4, 11]), ([12], [12]), ([13], [13]), ([13, 14], [13, 14]), ([15, 13, 0, 1, 2, 3, 4, 5, 6, 7, 8, 9, 10, 11, 12, 13, 14, 15], [15])])
def phaetonlaw24_ImageOne.B11 : List Nat := [0, 1, 0, 4, 15, 0, 32, 96, 0, 256, 768, 2016, 4095, 8191, 16383, 32767, 65535]
theorem phaetonlaw24_ImageOne.tab11 : rtab .any (opsOf Try.f10 11) = phaetonlaw24_ImageOne.T11 := by kernel_rfl
theorem phaetonlaw24_ImageOne.bits11 : waitsOk phaetonlaw24_ImageOne.T11.2 phaetonlaw24_ImageOne.B11 = true := by kernel_rfl
set_option maxHeartbeats 8000000 in
set_option maxRecDepth 100000 in
theorem phaetonlaw24_ImageOne.calls (k : Nat) (a0_0 : Int) (A0_1 : Option Addr) (c0_1 : Nat) (l0_1 : List Int) (a1_0 : Int) (A1_1 : Option Addr) (c1_1 : Nat) (l1_1 : List Int) (a2_0 : Int) (a2_1 : Int) (r : Bool) (w : World) (hr0_1 : Kd.C (Kd.int .u8) w A0_1 l0_1.length l0_1) (hc0_1 : l0_1.length ≤ c0_1) (hr1_1 : Kd.C (Kd.int .u8) w A1_1 l1_1.length l1_1) (hc1_1 : l1_1.length ≤ c1_1) (h : phaetonlaw24_ImageOne.f k a0_0 l0_1 a1_0 l1_1 a2_0 a2_1 = some r) :
    Calls Try.prog 10 #[.agg #[.int .i64 a0_0, .slice A0_1 l0_1.length c0_1], .agg #[.int .i64 a1_0, .slice A1_1 l1_1.length c1_1], .agg #[.int .i64 a2_0, .int .i64 a2_1]] w fun e w' => e = .returned (.bool r) ∧ Below w.heap.size w w' := by
  have hu24 := Try.underlying24
  have hu50 := Try.underlying50
  have HR0_1 := Aside0.mk hr0_1
  have HC0_1 := Aside0.mk hc0_1
  clear hr0_1 hc0_1
  have HR1_1 := Aside0.mk hr1_1
  have HC1_1 := Aside0.mk hc1_1
  clear hr1_1 hc1_1
  have HB := Aside0.mk (Below.refl w.heap.size w)
  have H : ((phaetonlaw24_head.f k).bind fun t516 => ((phaetonlaw24_Cut.f a0_0 l0_1).bind fun bt517 => ((phaetonlaw24_Cut.f a1_0 l1_1).bind fun bt521 => ((image_Pack.f k bt517.1 bt517.2 a2_0).bind fun bt525 => ((image_Pack.f k bt521.1 bt521.2 a2_0).bind fun bt529 => ((image_Pack.f k bt517.1 bt517.2 a2_1).bind fun bt533 => (if bt525.2 = true then (if bt529.2 = true then ((phaetonref24_Same.f bt517.1 bt517.2 bt521.1 bt521.2).bind fun t537 => (phaetonlaw24_ImageOne.j0 k t516 bt525.1 bt525.2 bt533.1 bt533.2 (((strOfNums bt525.1).toList == (strOfNums bt529.1).toList) != t537))) else (phaetonlaw24_ImageOne.j0 k t516 bt525.1 bt525.2 bt533.1 bt533.2 false)) else (phaetonlaw24_ImageOne.j0 k t516 bt525.1 bt525.2 bt533.1 bt533.2 false)))))))) = some r := h
  clear h
  replace H := Option.bind_eq_some_iff.mp H
  obtain ⟨t516, A40, H⟩ := H
  replace H : ((phaetonlaw24_Cut.f a0_0 l0_1).bind fun bt517 => ((phaetonlaw24_Cut.f a1_0 l1_1).bind fun bt521 => ((image_Pack.f k bt517.1 bt517.2 a2_0).bind fun bt525 => ((image_Pack.f k bt521.1 bt521.2 a2_0).bind fun bt529 => ((image_Pack.f k bt517.1 bt517.2 a2_1).bind fun bt533 => (if bt525.2 = true then (if bt529.2 = true then ((phaetonref24_Same.f bt517.1 bt517.2 bt521.1 bt521.2).bind fun t537 => (phaetonlaw24_ImageOne.j0 k t516 bt525.1 bt525.2 bt533.1 bt533.2 (((strOfNums bt525.1).toList == (strOfNums bt529.1).toList) != t537))) else (phaetonlaw24_ImageOne.j0 k t516 bt525.1 bt525.2 bt533.1 bt533.2 false)) else (phaetonlaw24_ImageOne.j0 k t516 bt525.1 bt525.2 bt533.1 bt533.2 false))))))) = some r := H
  have A4 := Aside0.mk A40
  clear A40
  replace H := Option.bind_eq_some_iff.mp H
  obtain ⟨⟨t517, t518⟩, A50, H⟩ := H
  replace H : ((phaetonlaw24_Cut.f a1_0 l1_1).bind fun bt521 => ((image_Pack.f k t517 t518 a2_0).bind fun bt525 => ((image_Pack.f k bt521.1 bt521.2 a2_0).bind fun bt529 => ((image_Pack.f k t517 t518 a2_1).bind fun bt533 => (if bt525.2 = true then (if bt529.2 = true then ((phaetonref24_Same.f t517 t518 bt521.1 bt521.2).bind fun t537 => (phaetonlaw24_ImageOne.j0 k t516 bt525.1 bt525.2 bt533.1 bt533.2 (((strOfNums bt525.1).toList == (strOfNums bt529.1).toList) != t537))) else (phaetonlaw24_ImageOne.j0 k t516 bt525.1 bt525.2 bt533.1 bt533.2 false)) else (phaetonlaw24_ImageOne.j0 k t516 bt525.1 bt525.2 bt533.1 bt533.2 false)))))) = some r := H
  have A5 := Aside0.mk A50
  clear A50
  replace H := Option.bind_eq_some_iff.mp H
  obtain ⟨⟨t521, t522⟩, A60, H⟩ := H
  replace H : ((image_Pack.f k t517 t518 a2_0).bind fun bt525 => ((image_Pack.f k t521 t522 a2_0).bind fun bt529 => ((image_Pack.f k t517 t518 a2_1).bind fun bt533 => (if bt525.2 = true then (if bt529.2 = true then ((phaetonref24_Same.f t517 t518 t521 t522).bind fun t537 => (phaetonlaw24_ImageOne.j0 k t516 bt525.1 bt525.2 bt533.1 bt533.2 (((strOfNums bt525.1).toList == (strOfNums bt529.1).toList) != t537))) else (phaetonlaw24_ImageOne.j0 k t516 bt525.1 bt525.2 bt533.1 bt533.2 false)) else (phaetonlaw24_ImageOne.j0 k t516 bt525.1 bt525.2 bt533.1 bt533.2 false))))) = some r := H
  have A6 := Aside0.mk A60
  clear A60
  replace H := Option.bind_eq_some_iff.mp H
  obtain ⟨⟨t525, t528⟩, A70, H⟩ := H
  replace H : ((image_Pack.f k t521 t522 a2_0).bind fun bt529 => ((image_Pack.f k t517 t518 a2_1).bind fun bt533 => (if t528 = true then (if bt529.2 = true then ((phaetonref24_Same.f t517 t518 t521 t522).bind fun t537 => (phaetonlaw24_ImageOne.j0 k t516 t525 t528 bt533.1 bt533.2 (((strOfNums t525).toList == (strOfNums bt529.1).toList) != t537))) else (phaetonlaw24_ImageOne.j0 k t516 t525 t528 bt533.1 bt533.2 false)) else (phaetonlaw24_ImageOne.j0 k t516 t525 t528 bt533.1 bt533.2 false)))) = some r := H
  have A7 := Aside0.mk A70
  clear A70
  replace H := Option.bind_eq_some_iff.mp H
  obtain ⟨⟨t529, t532⟩, A80, H⟩ := H
  replace H : ((image_Pack.f k t517 t518 a2_1).bind fun bt533 => (if t528 = true then (if t532 = true then ((phaetonref24_Same.f t517 t518 t521 t522).bind fun t537 => (phaetonlaw24_ImageOne.j0 k t516 t525 t528 bt533.1 bt533.2 (((strOfNums t525).toList == (strOfNums t529).toList) != t537))) else (phaetonlaw24_ImageOne.j0 k t516 t525 t528 bt533.1 bt533.2 false)) else (phaetonlaw24_ImageOne.j0 k t516 t525 t528 bt533.1 bt533.2 false))) = some r := H
  have A8 := Aside0.mk A80
  clear A80
  replace H := Option.bind_eq_some_iff.mp H
  obtain ⟨⟨t533, t536⟩, A90, H⟩ := H
  replace H : (if t528 = true then (if t532 = true then ((phaetonref24_Same.f t517 t518 t521 t522).bind fun t537 => (phaetonlaw24_ImageOne.j0 k t516 t525 t528 t533 t536 (((strOfNums t525).toList == (strOfNums t529).toList) != t537))) else (phaetonlaw24_ImageOne.j0 k t516 t525 t528 t533 t536 false)) else (phaetonlaw24_ImageOne.j0 k t516 t525 t528 t533 t536 false)) = some r := H
  have A9 := Aside0.mk A90
  clear A90
  have HC10 := Aside0.mk H
  clear H
  go_enter Try.func10, Try.ntmps10
  (try simp only [List.append])
  go_upto_region 7 with (first | ((with_reducible refine gate_dst (N := 3) rfl ?_); (try (refine gate_guard (by rfl) ?_; dsimp only)); refine box_event ?hg (N := 3) ?hd (cs := #[.int .i64 a0_0, .slice A0_1 l0_1.length c0_1]) (t := 24) ?hr ?_; (case hd => rfl); (case hg => rfl); (case hr => first | (go_simp; done) | (go_simp; rfl)); intro gb513 hg w11 hbox hb; have n0_ := Aside0.mk (below_step (by repeat (first | (with_reducible first | exact HB.out | apply below_alloc | apply pw_below_drewN | apply below_drew1) | exact HB.out)) hb); have n1_ := Aside0.mk (hbox); have n2_ := Aside0.mk ((by rw [hg]; exact (below_size (by repeat (first | (with_reducible first | exact HB.out | apply below_alloc | apply pw_below_drewN | apply below_drew1) | exact HB.out))) : w.heap.size ≤ gb513)); have n3_ := Aside0.mk ((by rw [hg]; exact (below_size (by repeat (first | (with_reducible first | exact HB.out | apply below_alloc | apply pw_below_drewN | apply below_drew1) | exact HB.out))) : w.heap.size ≤ gb513)); clear HB; have HB := n0_; have BK513 := n1_; have GW513 := n2_; have GE513 := n3_; clear n0_ n1_ n2_ n3_; clear hb hbox hg) | ((with_reducible refine gate_dst (N := 4) rfl ?_); (try (refine gate_guard (by rfl) ?_; dsimp only)); refine box_event ?hg (N := 4) ?hd (cs := #[.int .i64 a1_0, .slice A1_1 l1_1.length c1_1]) (t := 24) ?hr ?_; (case hd => rfl); (case hg => rfl); (case hr => first | (go_simp; done) | (go_simp; rfl)); intro gb514 hg w12 hbox hb; have n0_ := Aside0.mk (blk_below (g := gb513) (o := .cells #[.int .i64 a0_0, .slice A0_1 l0_1.length c0_1] 24 (0, 0)) (by (with_reducible repeat (first | refine blk_drewN ?_ _ | refine blk_drew ?_ | refine blk_alloc ?_ _)); exact BK513.out) hb); have n1_ := Aside0.mk (below_step (by repeat (first | (with_reducible first | exact HB.out | apply below_alloc | apply pw_below_drewN | apply below_drew1 | refine below_set ?_ GE513.out) | exact HB.out)) hb); have n2_ := Aside0.mk (hbox); have n3_ := Aside0.mk ((by rw [hg]; exact (below_size (by repeat (first | (with_reducible first | exact HB.out | apply below_alloc | apply pw_below_drewN | apply below_drew1 | refine below_set ?_ GE513.out) | exact HB.out))) : w.heap.size ≤ gb514)); have n4_ := Aside0.mk ((by rw [hg]; exact (below_size (by repeat (first | (with_reducible first | exact HB.out | apply below_alloc | apply pw_below_drewN | apply below_drew1 | refine below_set ?_ GE513.out) | exact HB.out))) : w.heap.size ≤ gb514)); have n5_ := Aside0.mk ((by rw [hg]; exact Nat.ne_of_lt (blk_lt (g := gb513) (o := .cells #[.int .i64 a0_0, .slice A0_1 l0_1.length c0_1] 24 (0, 0)) (by (with_reducible repeat (first | refine blk_drewN ?_ _ | refine blk_drew ?_ | refine blk_alloc ?_ _)); exact BK513.out)) : gb513 ≠ gb514)); have n6_ := Aside0.mk ((by rw [hg]; exact Nat.ne_of_gt (blk_lt (g := gb513) (o := .cells #[.int .i64 a0_0, .slice A0_1 l0_1.length c0_1] 24 (0, 0)) (by (with_reducible repeat (first | refine blk_drewN ?_ _ | refine blk_drew ?_ | refine blk_alloc ?_ _)); exact BK513.out)) : gb514 ≠ gb513)); clear BK513; clear HB; have BK513 := n0_; have HB := n1_; have BK514 := n2_; have GW514 := n3_; have GE514 := n4_; have NB513_514 := n5_; have NB514_513 := n6_; clear n0_ n1_ n2_ n3_ n4_ n5_ n6_; clear hb hbox hg) | ((with_reducible refine gate_dst (N := 5) rfl ?_); (try (refine gate_guard (by rfl) ?_; dsimp only)); refine box_event ?hg (N := 5) ?hd (cs := #[.int .i64 a2_0, .int .i64 a2_1]) (t := 50) ?hr ?_; (case hd => rfl); (case hg => rfl); (case hr => first | (go_simp; done) | (go_simp; rfl)); intro gb515 hg w13 hbox hb; have n0_ := Aside0.mk (blk_below (g := gb513) (o := .cells #[.int .i64 a0_0, .slice A0_1 l0_1.length c0_1] 24 (0, 0)) (by (with_reducible repeat (first | refine blk_drewN ?_ _ | refine blk_drew ?_ | refine blk_alloc ?_ _)); exact BK513.out) hb); have n1_ := Aside0.mk (blk_below (g := gb514) (o := .cells #[.int .i64 a1_0, .slice A1_1 l1_1.length c1_1] 24 (0, 0)) (by (with_reducible repeat (first | refine blk_drewN ?_ _ | refine blk_drew ?_ | refine blk_alloc ?_ _)); exact BK514.out) hb); have n2_ := Aside0.mk (below_step (by repeat (first | (with_reducible first | exact HB.out | apply below_alloc | apply pw_below_drewN | apply below_drew1 | refine below_set ?_ GE513.out | refine below_set ?_ GE514.out) | exact HB.out)) hb); have n3_ := Aside0.mk (hbox); have n4_ := Aside0.mk ((by rw [hg]; exact (below_size (by repeat (first | (with_reducible first | exact HB.out | apply below_alloc | apply pw_below_drewN | apply below_drew1 | refine below_set ?_ GE513.out | refine below_set ?_ GE514.out) | exact HB.out))) : w.heap.size ≤ gb515)); have n5_ := Aside0.mk ((by rw [hg]; exact (below_size (by repeat (first | (with_reducible first | exact HB.out | apply below_alloc | apply pw_below_drewN | apply below_drew1 | refine below_set ?_ GE513.out | refine below_set ?_ GE514.out) | exact HB.out))) : w.heap.size ≤ gb515)); have n6_ := Aside0.mk ((by rw [hg]; exact Nat.ne_of_lt (blk_lt (g := gb513) (o := .cells #[.int .i64 a0_0, .slice A0_1 l0_1.length c0_1] 24 (0, 0)) (by (with_reducible repeat (first | refine blk_drewN ?_ _ | refine blk_drew ?_ | refine blk_alloc ?_ _)); exact BK513.out)) : gb513 ≠ gb515)); have n7_ := Aside0.mk ((by rw [hg]; exact Nat.ne_of_gt (blk_lt (g := gb513) (o := .cells #[.int .i64 a0_0, .slice A0_1 l0_1.length c0_1] 24 (0, 0)) (by (with_reducible repeat (first | refine blk_drewN ?_ _ | refine blk_drew ?_ | refine blk_alloc ?_ _)); exact BK513.out)) : gb515 ≠ gb513)); have n8_ := Aside0.mk ((by rw [hg]; exact Nat.ne_of_lt (blk_lt (g := gb514) (o := .cells #[.int .i64 a1_0, .slice A1_1 l1_1.length c1_1] 24 (0, 0)) (by (with_reducible repeat (first | refine blk_drewN ?_ _ | refine blk_drew ?_ | refine blk_alloc ?_ _)); exact BK514.out)) : gb514 ≠ gb515)); have n9_ := Aside0.mk ((by rw [hg]; exact Nat.ne_of_gt (blk_lt (g := gb514) (o := .cells #[.int .i64 a1_0, .slice A1_1 l1_1.length c1_1] 24 (0, 0)) (by (with_reducible repeat (first | refine blk_drewN ?_ _ | refine blk_drew ?_ | refine blk_alloc ?_ _)); exact BK514.out)) : gb515 ≠ gb514)); clear BK513; clear BK514; clear HB; have BK513 := n0_; have BK514 := n1_; have HB := n2_; have BK515 := n3_; have GW515 := n4_; have GE515 := n5_; have NB513_515 := n6_; have NB515_513 := n7_; have NB514_515 := n8_; have NB515_514 := n9_; clear n0_ n1_ n2_ n3_ n4_ n5_ n6_ n7_ n8_ n9_; clear hb hbox hg) | ((with_reducible refine gate_callee (f := 11) rfl ?_); refine goesL_ (some 14) rfl rfl Try.func11 (by kernel_rfl) rfl #[] rfl (by (try simp only [List.map_toArray, List.map_cons, List.map_nil]); first | done | rfl | (simp only [List.length_drop, List.length_take]; rfl)) ?_; (with_reducible refine (phaetonlaw24_head.calls k  t516 _ A4.out).mono ?_); rintro e w14 ⟨rfl, hb⟩; refine ⟨_, rfl, ?_⟩; have n0_ := Aside0.mk (blk_below (g := gb513) (o := .cells #[.int .i64 a0_0, .slice A0_1 l0_1.length c0_1] 24 (0, 0)) (by (with_reducible repeat (first | refine blk_drewN ?_ _ | refine blk_drew ?_ | refine blk_alloc ?_ _)); exact BK513.out) hb); have n1_ := Aside0.mk (blk_below (g := gb514) (o := .cells #[.int .i64 a1_0, .slice A1_1 l1_1.length c1_1] 24 (0, 0)) (by (with_reducible repeat (first | refine blk_drewN ?_ _ | refine blk_drew ?_ | refine blk_alloc ?_ _)); exact BK514.out) hb); have n2_ := Aside0.mk (blk_below (g := gb515) (o := .cells #[.int .i64 a2_0, .int .i64 a2_1] 50 (0, 0)) (by (with_reducible repeat (first | refine blk_drewN ?_ _ | refine blk_drew ?_ | refine blk_alloc ?_ _)); exact BK515.out) hb); have n3_ := Aside0.mk (below_step (by repeat (first | (with_reducible first | exact HB.out | apply below_alloc | apply pw_below_drewN | apply below_drew1 | refine below_set ?_ GE513.out | refine below_set ?_ GE514.out | refine below_set ?_ GE515.out) | exact HB.out)) hb); clear BK513; clear BK514; clear BK515; clear HB; have BK513 := n0_; have BK514 := n1_; have BK515 := n2_; have HB := n3_; clear n0_ n1_ n2_ n3_; (try clear hb); (try clear hb2); (try clear hk); (try clear hi); have hnb15 := NB513_514.out; have hnc15 := NB514_513.out; have hnb16 := NB513_515.out; have hnc16 := NB515_513.out; have hcz17_0 : w14.cell? ⟨gb513, 0, none⟩ = some (.int .i64 a0_0) := (blk_cell BK513.out 0).trans rfl; have hcz17_1 : w14.cell? ⟨gb513, 1, none⟩ = some (.slice A0_1 l0_1.length c0_1) := (blk_cell BK513.out 1).trans rfl; have hfz17_0 := blk_frozen BK513.out 0; have hfz17_1 := blk_frozen BK513.out 1) | ((with_reducible refine gate_callee (f := 12) rfl ?_); refine goesL_ (some 16) rfl rfl Try.func12 (by kernel_rfl) rfl #[.agg #[.int .i64 a0_0, .slice A0_1 l0_1.length c0_1]] rfl (by (try simp only [List.map_toArray, List.map_cons, List.map_nil]); first | done | rfl | (simp only [List.length_drop, List.length_take]; rfl)) ?_; (with_reducible refine (phaetonlaw24_Cut.calls a0_0 _ _ l0_1 t517 t518 _ ?side1 ?side2 A5.out).mono ?_); (case side1 => repeat (first | exact (Kd.C_below HR0_1.out HB.out) | (with_reducible refine Kd.C_alloc ?_ _) | (with_reducible refine Kd.C_drewN ?_ _) | (with_reducible refine Kd.C_drew ?_))); (case side2 => exact HC0_1.out); rintro e w18 ⟨v519, rfl, ho0, hb⟩; refine ⟨_, rfl, ?_⟩; have n0_ := Aside0.mk (Kd.R_lower ho0 (below_size (by repeat (first | (with_reducible first | exact HB.out | apply below_alloc | apply pw_below_drewN | apply below_drew1 | refine below_set ?_ GE513.out | refine below_set ?_ GE514.out | refine below_set ?_ GE515.out) | exact HB.out)))); have n1_ := Aside0.mk (blk_below (g := gb513) (o := .cells #[.int .i64 a0_0, .slice A0_1 l0_1.length c0_1] 24 (0, 0)) (by (with_reducible repeat (first | refine blk_drewN ?_ _ | refine blk_drew ?_ | refine blk_alloc ?_ _)); exact BK513.out) hb); have n2_ := Aside0.mk (blk_below (g := gb514) (o := .cells #[.int .i64 a1_0, .slice A1_1 l1_1.length c1_1] 24 (0, 0)) (by (with_reducible repeat (first | refine blk_drewN ?_ _ | refine blk_drew ?_ | refine blk_alloc ?_ _)); exact BK514.out) hb); have n3_ := Aside0.mk (blk_below (g := gb515) (o := .cells #[.int .i64 a2_0, .int .i64 a2_1] 50 (0, 0)) (by (with_reducible repeat (first | refine blk_drewN ?_ _ | refine blk_drew ?_ | refine blk_alloc ?_ _)); exact BK515.out) hb); have n4_ := Aside0.mk (below_step (by repeat (first | (with_reducible first | exact HB.out | apply below_alloc | apply pw_below_drewN | apply below_drew1 | refine below_set ?_ GE513.out | refine below_set ?_ GE514.out | refine below_set ?_ GE515.out) | exact HB.out)) hb); clear BK513; clear BK514; clear BK515; clear HB; have HO520 := n0_; have BK513 := n1_; have BK514 := n2_; have BK515 := n3_; have HB := n4_; clear n0_ n1_ n2_ n3_ n4_; (try clear hb); (try clear hb2); (try clear hk); (try clear hi); (try clear ho0); have hcz19_0 : w18.cell? ⟨gb513, 0, none⟩ = some (.int .i64 a0_0) := (blk_cell BK513.out 0).trans rfl; have hcz19_1 : w18.cell? ⟨gb513, 1, none⟩ = some (.slice A0_1 l0_1.length c0_1) := (blk_cell BK513.out 1).trans rfl; have hfz19_0 := blk_frozen BK513.out 0; have hfz19_1 := blk_frozen BK513.out 1; obtain ⟨Ao20, co20, eo20⟩ := Kd.R_slice HO520.out; subst eo20; have hnb21 := NB514_515.out; have hnc21 := NB515_514.out; have hcz22_0 : w18.cell? ⟨gb514, 0, none⟩ = some (.int .i64 a1_0) := (blk_cell BK514.out 0).trans rfl; have hcz22_1 : w18.cell? ⟨gb514, 1, none⟩ = some (.slice A1_1 l1_1.length c1_1) := (blk_cell BK514.out 1).trans rfl; have hfz22_0 := blk_frozen BK514.out 0; have hfz22_1 := blk_frozen BK514.out 1) | ((with_reducible refine gate_callee (f := 12) rfl ?_); refine goesL_ (some 18) rfl rfl Try.func12 (by kernel_rfl) rfl #[.agg #[.int .i64 a1_0, .slice A1_1 l1_1.length c1_1]] rfl (by (try simp only [List.map_toArray, List.map_cons, List.map_nil]); first | done | rfl | (simp only [List.length_drop, List.length_take]; rfl)) ?_; (with_reducible refine (phaetonlaw24_Cut.calls a1_0 _ _ l1_1 t521 t522 _ ?side1 ?side2 A6.out).mono ?_); (case side1 => exact Kd.C_below HR1_1.out (by repeat (first | (with_reducible first | exact HB.out | apply below_alloc | apply pw_below_drewN | apply below_drew1 | refine below_set ?_ GE513.out | refine below_set ?_ GE514.out | refine below_set ?_ GE515.out) | exact HB.out))); (case side2 => exact HC1_1.out); rintro e w23 ⟨v523, rfl, ho0, hb⟩; refine ⟨_, rfl, ?_⟩; have n0_ := Aside0.mk (Kd.R_elder' (by (with_reducible repeat (first | apply Kd.R_alloc | apply Kd.R_drewN | apply Kd.R_drew)); exact (Kd.R_mono (Kd.R_far (p := ⟨gb513, 1, none⟩) (Kd.R_far (p := ⟨gb513, 0, none⟩) (Kd.R_types HO520.out BK513.out (by decide)) (fun _ hk => hk.2) (.int .i64 t517)) (fun _ hk => hk.2) (.slice Ao20 t518.length co20)) (fun _ h_ => h_.1))) (Kd.R_base ho0) hb); have n1_ := Aside0.mk (Kd.R_lower (Kd.R_new' ho0 (Kd.R_lt (by (with_reducible repeat (first | apply Kd.R_alloc | apply Kd.R_drewN | apply Kd.R_drew)); exact (Kd.R_mono (Kd.R_far (p := ⟨gb513, 1, none⟩) (Kd.R_far (p := ⟨gb513, 0, none⟩) (Kd.R_types HO520.out BK513.out (by decide)) (fun _ hk => hk.2) (.int .i64 t517)) (fun _ hk => hk.2) (.slice Ao20 t518.length co20)) (fun _ h_ => h_.1))))) (below_size (by repeat (first | (with_reducible first | exact HB.out | apply below_alloc | apply pw_below_drewN | apply below_drew1 | refine below_set ?_ GE513.out | refine below_set ?_ GE514.out | refine below_set ?_ GE515.out) | exact HB.out)))); have n2_ := Aside0.mk (blk_below (g := gb513) (o := .cells #[.int .i64 t517, .slice Ao20 t518.length co20] 24 (0, 0)) (by (with_reducible repeat (first | refine blk_drewN ?_ _ | refine blk_drew ?_ | refine blk_alloc ?_ _)); refine blk_put (cs := #[.int .i64 t517, .slice A0_1 l0_1.length c0_1]) ?_ 1 _ rfl; (with_reducible repeat (first | refine blk_drewN ?_ _ | refine blk_drew ?_ | refine blk_alloc ?_ _)); refine blk_put (cs := #[.int .i64 a0_0, .slice A0_1 l0_1.length c0_1]) ?_ 0 _ rfl; (with_reducible repeat (first | refine blk_drewN ?_ _ | refine blk_drew ?_ | refine blk_alloc ?_ _)); exact BK513.out) hb); have n3_ := Aside0.mk (blk_below (g := gb514) (o := .cells #[.int .i64 a1_0, .slice A1_1 l1_1.length c1_1] 24 (0, 0)) (by (with_reducible repeat (first | refine blk_drewN ?_ _ | refine blk_drew ?_ | refine blk_alloc ?_ _)); refine blk_far ?_ NB514_513.out _; (with_reducible repeat (first | refine blk_drewN ?_ _ | refine blk_drew ?_ | refine blk_alloc ?_ _)); refine blk_far ?_ NB514_513.out _; (with_reducible repeat (first | refine blk_drewN ?_ _ | refine blk_drew ?_ | refine blk_alloc ?_ _)); exact BK514.out) hb); have n4_ := Aside0.mk (blk_below (g := gb515) (o := .cells #[.int .i64 a2_0, .int .i64 a2_1] 50 (0, 0)) (by (with_reducible repeat (first | refine blk_drewN ?_ _ | refine blk_drew ?_ | refine blk_alloc ?_ _)); refine blk_far ?_ NB515_513.out _; (with_reducible repeat (first | refine blk_drewN ?_ _ | refine blk_drew ?_ | refine blk_alloc ?_ _)); refine blk_far ?_ NB515_513.out _; (with_reducible repeat (first | refine blk_drewN ?_ _ | refine blk_drew ?_ | refine blk_alloc ?_ _)); exact BK515.out) hb); have n5_ := Aside0.mk (below_step (by repeat (first | (with_reducible first | exact HB.out | apply below_alloc | apply pw_below_drewN | apply below_drew1 | refine below_set ?_ GE513.out | refine below_set ?_ GE514.out | refine below_set ?_ GE515.out) | exact HB.out)) hb); clear HO520; clear BK513; clear BK514; clear BK515; clear HB; have HO520 := n0_; have HO524 := n1_; have BK513 := n2_; have BK514 := n3_; have BK515 := n4_; have HB := n5_; clear n0_ n1_ n2_ n3_ n4_ n5_; (try clear hb); (try clear hb2); (try clear hk); (try clear hi); (try clear ho0); have hcz24_0 : w23.cell? ⟨gb514, 0, none⟩ = some (.int .i64 a1_0) := (blk_cell BK514.out 0).trans rfl; have hcz24_1 : w23.cell? ⟨gb514, 1, none⟩ = some (.slice A1_1 l1_1.length c1_1) := (blk_cell BK514.out 1).trans rfl; have hfz24_0 := blk_frozen BK514.out 0; have hfz24_1 := blk_frozen BK514.out 1; obtain ⟨Ao25, co25, eo25⟩ := Kd.R_slice HO524.out; subst eo25; have hcz26_0 : w23.cell? ⟨gb513, 0, none⟩ = some (.int .i64 t517) := (blk_cell BK513.out 0).trans rfl; have hcz26_1 : w23.cell? ⟨gb513, 1, none⟩ = some (.slice Ao20 t518.length co20) := (blk_cell BK513.out 1).trans rfl; have hfz26_0 := blk_frozen BK513.out 0; have hfz26_1 := blk_frozen BK513.out 1; have hcz27_0 : w23.cell? ⟨gb515, 0, none⟩ = some (.int .i64 a2_0) := (blk_cell BK515.out 0).trans rfl; have hcz27_1 : w23.cell? ⟨gb515, 1, none⟩ = some (.int .i64 a2_1) := (blk_cell BK515.out 1).trans rfl; have hfz27_0 := blk_frozen BK515.out 0; have hfz27_1 := blk_frozen BK515.out 1) | ((with_reducible refine gate_callee (f := 13) rfl ?_); refine goesL_ (some 23) rfl rfl Try.func13 (by kernel_rfl) rfl #[.agg #[.int .i64 t517, .slice Ao20 t518.length co20], .int .i64 a2_0] rfl (by (try simp only [List.map_toArray, List.map_cons, List.map_nil]); first | done | rfl | (simp only [List.length_drop, List.length_take]; rfl)) ?_; (with_reducible refine (image_Pack.calls k t517 _ _ t518 a2_0 t525 t528 _ ?side1 ?side2 A7.out).mono ?_); (case side1 => refine (Kd.R_reads' (e := 5) (base := w.heap.size) (ok := fun k_ => (True ∧ some k_ ≠ (.slice Ao25 t522.length co25 : Value).ownBlock)) (n := t518.length) (c := co20) ?_).2.2; exact (by (with_reducible repeat (first | apply Kd.R_alloc | apply Kd.R_drewN | apply Kd.R_drew)); exact (Kd.R_mono (Kd.R_far (p := ⟨gb514, 1, none⟩) (Kd.R_far (p := ⟨gb514, 0, none⟩) (Kd.R_types HO520.out BK514.out (by decide)) (fun _ hk => hk.2) (.int .i64 t521)) (fun _ hk => hk.2) (.slice Ao25 t522.length co25)) (fun _ h_ => h_.1)))); (case side2 => exact (Kd.R_reads' HO520.out).2.1); rintro e w28 ⟨v526, rfl, ho0, hb⟩; refine ⟨_, rfl, ?_⟩; have n0_ := Aside0.mk (Kd.R_elder' (by (with_reducible repeat (first | apply Kd.R_alloc | apply Kd.R_drewN | apply Kd.R_drew)); exact (Kd.R_mono (Kd.R_far (p := ⟨gb514, 1, none⟩) (Kd.R_far (p := ⟨gb514, 0, none⟩) (Kd.R_types HO520.out BK514.out (by decide)) (fun _ hk => hk.2) (.int .i64 t521)) (fun _ hk => hk.2) (.slice Ao25 t522.length co25)) (fun _ h_ => h_.1))) (Kd.R_base ho0) hb); have n1_ := Aside0.mk (Kd.R_elder' (by (with_reducible repeat (first | apply Kd.R_alloc | apply Kd.R_drewN | apply Kd.R_drew)); exact (Kd.R_mono (Kd.R_far (p := ⟨gb514, 1, none⟩) (Kd.R_far (p := ⟨gb514, 0, none⟩) (Kd.R_types HO524.out BK514.out (by decide)) (fun _ hk => hk.2) (.int .i64 t521)) (fun _ hk => hk.2) (.slice Ao25 t522.length co25)) (fun _ h_ => h_.1))) (Kd.R_base ho0) hb); have n2_ := Aside0.mk (Kd.R_lower (Kd.R_new' (Kd.R_new' ho0 (Kd.R_lt (by (with_reducible repeat (first | apply Kd.R_alloc | apply Kd.R_drewN | apply Kd.R_drew)); exact (Kd.R_mono (Kd.R_far (p := ⟨gb514, 1, none⟩) (Kd.R_far (p := ⟨gb514, 0, none⟩) (Kd.R_types HO520.out BK514.out (by decide)) (fun _ hk => hk.2) (.int .i64 t521)) (fun _ hk => hk.2) (.slice Ao25 t522.length co25)) (fun _ h_ => h_.1))))) (Kd.R_lt (by (with_reducible repeat (first | apply Kd.R_alloc | apply Kd.R_drewN | apply Kd.R_drew)); exact (Kd.R_mono (Kd.R_far (p := ⟨gb514, 1, none⟩) (Kd.R_far (p := ⟨gb514, 0, none⟩) (Kd.R_types HO524.out BK514.out (by decide)) (fun _ hk => hk.2) (.int .i64 t521)) (fun _ hk => hk.2) (.slice Ao25 t522.length co25)) (fun _ h_ => h_.1))))) (below_size (by repeat (first | (with_reducible first | exact HB.out | apply below_alloc | apply pw_below_drewN | apply below_drew1 | refine below_set ?_ GE513.out | refine below_set ?_ GE514.out | refine below_set ?_ GE515.out) | exact HB.out)))); have n3_ := Aside0.mk (blk_below (g := gb513) (o := .cells #[.int .i64 t517, .slice Ao20 t518.length co20] 24 (0, 0)) (by (with_reducible repeat (first | refine blk_drewN ?_ _ | refine blk_drew ?_ | refine blk_alloc ?_ _)); refine blk_far ?_ NB513_514.out _; (with_reducible repeat (first | refine blk_drewN ?_ _ | refine blk_drew ?_ | refine blk_alloc ?_ _)); refine blk_far ?_ NB513_514.out _; (with_reducible repeat (first | refine blk_drewN ?_ _ | refine blk_drew ?_ | refine blk_alloc ?_ _)); exact BK513.out) hb); have n4_ := Aside0.mk (blk_below (g := gb514) (o := .cells #[.int .i64 t521, .slice Ao25 t522.length co25] 24 (0, 0)) (by (with_reducible repeat (first | refine blk_drewN ?_ _ | refine blk_drew ?_ | refine blk_alloc ?_ _)); refine blk_put (cs := #[.int .i64 t521, .slice A1_1 l1_1.length c1_1]) ?_ 1 _ rfl; (with_reducible repeat (first | refine blk_drewN ?_ _ | refine blk_drew ?_ | refine blk_alloc ?_ _)); refine blk_put (cs := #[.int .i64 a1_0, .slice A1_1 l1_1.length c1_1]) ?_ 0 _ rfl; (with_reducible repeat (first | refine blk_drewN ?_ _ | refine blk_drew ?_ | refine blk_alloc ?_ _)); exact BK514.out) hb); have n5_ := Aside0.mk (blk_below (g := gb515) (o := .cells #[.int .i64 a2_0, .int .i64 a2_1] 50 (0, 0)) (by (with_reducible repeat (first | refine blk_drewN ?_ _ | refine blk_drew ?_ | refine blk_alloc ?_ _)); refine blk_far ?_ NB515_514.out _; (with_reducible repeat (first | refine blk_drewN ?_ _ | refine blk_drew ?_ | refine blk_alloc ?_ _)); refine blk_far ?_ NB515_514.out _; (with_reducible repeat (first | refine blk_drewN ?_ _ | refine blk_drew ?_ | refine blk_alloc ?_ _)); exact BK515.out) hb); have n6_ := Aside0.mk (below_step (by repeat (first | (with_reducible first | exact HB.out | apply below_alloc | apply pw_below_drewN | apply below_drew1 | refine below_set ?_ GE513.out | refine below_set ?_ GE514.out | refine below_set ?_ GE515.out) | exact HB.out)) hb); clear HO520; clear HO524; clear BK513; clear BK514; clear BK515; clear HB; have HO520 := n0_; have HO524 := n1_; have HO527 := n2_; have BK513 := n3_; have BK514 := n4_; have BK515 := n5_; have HB := n6_; clear n0_ n1_ n2_ n3_ n4_ n5_ n6_; (try clear hb); (try clear hb2); (try clear hk); (try clear hi); (try clear ho0); have hcz29_0 : w28.cell? ⟨gb514, 0, none⟩ = some (.int .i64 t521) := (blk_cell BK514.out 0).trans rfl; have hcz29_1 : w28.cell? ⟨gb514, 1, none⟩ = some (.slice Ao25 t522.length co25) := (blk_cell BK514.out 1).trans rfl; have hfz29_0 := blk_frozen BK514.out 0; have hfz29_1 := blk_frozen BK514.out 1; have hcz30_0 : w28.cell? ⟨gb515, 0, none⟩ = some (.int .i64 a2_0) := (blk_cell BK515.out 0).trans rfl; have hcz30_1 : w28.cell? ⟨gb515, 1, none⟩ = some (.int .i64 a2_1) := (blk_cell BK515.out 1).trans rfl; have hfz30_0 := blk_frozen BK515.out 0; have hfz30_1 := blk_frozen BK515.out 1) | ((with_reducible refine gate_callee (f := 13) rfl ?_); refine goesL_ (some 30) rfl rfl Try.func13 (by kernel_rfl) rfl #[.agg #[.int .i64 t521, .slice Ao25 t522.length co25], .int .i64 a2_0] rfl (by (try simp only [List.map_toArray, List.map_cons, List.map_nil]); first | done | rfl | (simp only [List.length_drop, List.length_take]; rfl)) ?_; (with_reducible refine (image_Pack.calls k t521 _ _ t522 a2_0 t529 t532 _ ?side1 ?side2 A8.out).mono ?_); (case side1 => repeat (first | exact (Kd.R_reads' HO524.out).2.2 | (with_reducible refine Kd.C_alloc ?_ _) | (with_reducible refine Kd.C_drewN ?_ _) | (with_reducible refine Kd.C_drew ?_))); (case side2 => exact (Kd.R_reads' HO524.out).2.1); rintro e w31 ⟨v530, rfl, ho0, hb⟩; refine ⟨_, rfl, ?_⟩; have n0_ := Aside0.mk (Kd.R_elder' (by (with_reducible repeat (first | apply Kd.R_alloc | apply Kd.R_drewN | apply Kd.R_drew)); exact HO520.out) (Kd.R_base ho0) hb); have n1_ := Aside0.mk (Kd.R_elder' (by (with_reducible repeat (first | apply Kd.R_alloc | apply Kd.R_drewN | apply Kd.R_drew)); exact HO524.out) (Kd.R_base ho0) hb); have n2_ := Aside0.mk (Kd.R_elder' (by (with_reducible repeat (first | apply Kd.R_alloc | apply Kd.R_drewN | apply Kd.R_drew)); exact HO527.out) (Kd.R_base ho0) hb); have n3_ := Aside0.mk (Kd.R_lower (Kd.R_new' (Kd.R_new' (Kd.R_new' ho0 (Kd.R_lt (by (with_reducible repeat (first | apply Kd.R_alloc | apply Kd.R_drewN | apply Kd.R_drew)); exact HO520.out))) (Kd.R_lt (by (with_reducible repeat (first | apply Kd.R_alloc | apply Kd.R_drewN | apply Kd.R_drew)); exact HO524.out))) (Kd.R_lt (by (with_reducible repeat (first | apply Kd.R_alloc | apply Kd.R_drewN | apply Kd.R_drew)); exact HO527.out))) (below_size (by repeat (first | (with_reducible first | exact HB.out | apply below_alloc | apply pw_below_drewN | apply below_drew1 | refine below_set ?_ GE513.out | refine below_set ?_ GE514.out | refine below_set ?_ GE515.out) | exact HB.out)))); have n4_ := Aside0.mk (blk_below (g := gb513) (o := .cells #[.int .i64 t517, .slice Ao20 t518.length co20] 24 (0, 0)) (by (with_reducible repeat (first | refine blk_drewN ?_ _ | refine blk_drew ?_ | refine blk_alloc ?_ _)); exact BK513.out) hb); have n5_ := Aside0.mk (blk_below (g := gb514) (o := .cells #[.int .i64 t521, .slice Ao25 t522.length co25] 24 (0, 0)) (by (with_reducible repeat (first | refine blk_drewN ?_ _ | refine blk_drew ?_ | refine blk_alloc ?_ _)); exact BK514.out) hb); have n6_ := Aside0.mk (blk_below (g := gb515) (o := .cells #[.int .i64 a2_0, .int .i64 a2_1] 50 (0, 0)) (by (with_reducible repeat (first | refine blk_drewN ?_ _ | refine blk_drew ?_ | refine blk_alloc ?_ _)); exact BK515.out) hb); have n7_ := Aside0.mk (below_step (by repeat (first | (with_reducible first | exact HB.out | apply below_alloc | apply pw_below_drewN | apply below_drew1 | refine below_set ?_ GE513.out | refine below_set ?_ GE514.out | refine below_set ?_ GE515.out) | exact HB.out)) hb); clear HO520; clear HO524; clear HO527; clear BK513; clear BK514; clear BK515; clear HB; have HO520 := n0_; have HO524 := n1_; have HO527 := n2_; have HO531 := n3_; have BK513 := n4_; have BK514 := n5_; have BK515 := n6_; have HB := n7_; clear n0_ n1_ n2_ n3_ n4_ n5_ n6_ n7_; (try clear hb); (try clear hb2); (try clear hk); (try clear hi); (try clear ho0); have hcz32_0 : w31.cell? ⟨gb513, 0, none⟩ = some (.int .i64 t517) := (blk_cell BK513.out 0).trans rfl; have hcz32_1 : w31.cell? ⟨gb513, 1, none⟩ = some (.slice Ao20 t518.length co20) := (blk_cell BK513.out 1).trans rfl; have hfz32_0 := blk_frozen BK513.out 0; have hfz32_1 := blk_frozen BK513.out 1; have hcz33_0 : w31.cell? ⟨gb515, 0, none⟩ = some (.int .i64 a2_0) := (blk_cell BK515.out 0).trans rfl; have hcz33_1 : w31.cell? ⟨gb515, 1, none⟩ = some (.int .i64 a2_1) := (blk_cell BK515.out 1).trans rfl; have hfz33_0 := blk_frozen BK515.out 0; have hfz33_1 := blk_frozen BK515.out 1) | ((with_reducible refine gate_callee (f := 13) rfl ?_); refine goesL_ (some 37) rfl rfl Try.func13 (by kernel_rfl) rfl #[.agg #[.int .i64 t517, .slice Ao20 t518.length co20], .int .i64 a2_1] rfl (by (try simp only [List.map_toArray, List.map_cons, List.map_nil]); first | done | rfl | (simp only [List.length_drop, List.length_take]; rfl)) ?_; (with_reducible refine (image_Pack.calls k t517 _ _ t518 a2_1 t533 t536 _ ?side1 ?side2 A9.out).mono ?_); (case side1 => repeat (first | exact (Kd.R_reads' HO520.out).2.2 | (with_reducible refine Kd.C_alloc ?_ _) | (with_reducible refine Kd.C_drewN ?_ _) | (with_reducible refine Kd.C_drew ?_))); (case side2 => exact (Kd.R_reads' HO520.out).2.1); rintro e w34 ⟨v534, rfl, ho0, hb⟩; refine ⟨_, rfl, ?_⟩; have n0_ := Aside0.mk (Kd.R_elder' (by (with_reducible repeat (first | apply Kd.R_alloc | apply Kd.R_drewN | apply Kd.R_drew)); exact HO520.out) (Kd.R_base ho0) hb); have n1_ := Aside0.mk (Kd.R_elder' (by (with_reducible repeat (first | apply Kd.R_alloc | apply Kd.R_drewN | apply Kd.R_drew)); exact HO524.out) (Kd.R_base ho0) hb); have n2_ := Aside0.mk (Kd.R_elder' (by (with_reducible repeat (first | apply Kd.R_alloc | apply Kd.R_drewN | apply Kd.R_drew)); exact HO527.out) (Kd.R_base ho0) hb); have n3_ := Aside0.mk (Kd.R_elder' (by (with_reducible repeat (first | apply Kd.R_alloc | apply Kd.R_drewN | apply Kd.R_drew)); exact HO531.out) (Kd.R_base ho0) hb); have n4_ := Aside0.mk (Kd.R_lower (Kd.R_new' (Kd.R_new' (Kd.R_new' (Kd.R_new' ho0 (Kd.R_lt (by (with_reducible repeat (first | apply Kd.R_alloc | apply Kd.R_drewN | apply Kd.R_drew)); exact HO520.out))) (Kd.R_lt (by (with_reducible repeat (first | apply Kd.R_alloc | apply Kd.R_drewN | apply Kd.R_drew)); exact HO524.out))) (Kd.R_lt (by (with_reducible repeat (first | apply Kd.R_alloc | apply Kd.R_drewN | apply Kd.R_drew)); exact HO527.out))) (Kd.R_lt (by (with_reducible repeat (first | apply Kd.R_alloc | apply Kd.R_drewN | apply Kd.R_drew)); exact HO531.out))) (below_size (by repeat (first | (with_reducible first | exact HB.out | apply below_alloc | apply pw_below_drewN | apply below_drew1 | refine below_set ?_ GE513.out | refine below_set ?_ GE514.out | refine below_set ?_ GE515.out) | exact HB.out)))); have n5_ := Aside0.mk (blk_below (g := gb513) (o := .cells #[.int .i64 t517, .slice Ao20 t518.length co20] 24 (0, 0)) (by (with_reducible repeat (first | refine blk_drewN ?_ _ | refine blk_drew ?_ | refine blk_alloc ?_ _)); exact BK513.out) hb); have n6_ := Aside0.mk (blk_below (g := gb514) (o := .cells #[.int .i64 t521, .slice Ao25 t522.length co25] 24 (0, 0)) (by (with_reducible repeat (first | refine blk_drewN ?_ _ | refine blk_drew ?_ | refine blk_alloc ?_ _)); exact BK514.out) hb); have n7_ := Aside0.mk (blk_below (g := gb515) (o := .cells #[.int .i64 a2_0, .int .i64 a2_1] 50 (0, 0)) (by (with_reducible repeat (first | refine blk_drewN ?_ _ | refine blk_drew ?_ | refine blk_alloc ?_ _)); exact BK515.out) hb); have n8_ := Aside0.mk (below_step (by repeat (first | (with_reducible first | exact HB.out | apply below_alloc | apply pw_below_drewN | apply below_drew1 | refine below_set ?_ GE513.out | refine below_set ?_ GE514.out | refine below_set ?_ GE515.out) | exact HB.out)) hb); clear HO520; clear HO524; clear HO527; clear HO531; clear BK513; clear BK514; clear BK515; clear HB; have HO520 := n0_; have HO524 := n1_; have HO527 := n2_; have HO531 := n3_; have HO535 := n4_; have BK513 := n5_; have BK514 := n6_; have BK515 := n7_; have HB := n8_; clear n0_ n1_ n2_ n3_ n4_ n5_ n6_ n7_ n8_; (try clear hb); (try clear hb2); (try clear hk); (try clear hi); (try clear ho0)))
  (try simp only [Act.put, List.setIfInBounds_toArray, List.set_cons_zero, List.set_cons_succ])
  go_cut [54] (fun v54 wc => ∃ (kq : Nat) (x54_9 : Bool), v54 = .bool x54_9 ∧ Aside0 (phaetonlaw24_ImageOne.j0 kq t516 t525 t528 t533 t536 x54_9 = some r) ∧ Aside0 (kq ≤ k) ∧ Aside0 (Kd.R (Kd.int .u8) 5 wc w.heap.size (fun k_ => some k_ ≠ (v534 : Value).ownBlock ∧ some k_ ≠ ((.slice Ao20 t518.length co20) : Value).ownBlock ∧ some k_ ≠ ((.slice Ao25 t522.length co25) : Value).ownBlock) v526 t525) ∧ Aside0 (Kd.R (Kd.int .u8) 5 wc w.heap.size (fun k_ => some k_ ≠ (v526 : Value).ownBlock ∧ some k_ ≠ ((.slice Ao20 t518.length co20) : Value).ownBlock ∧ some k_ ≠ ((.slice Ao25 t522.length co25) : Value).ownBlock) v534 t533) ∧ Aside0 (Kd.R (Kd.int .u8) 5 wc w.heap.size (fun k_ => some k_ ≠ (v526 : Value).ownBlock ∧ some k_ ≠ (v534 : Value).ownBlock ∧ some k_ ≠ ((.slice Ao25 t522.length co25) : Value).ownBlock) (.slice Ao20 t518.length co20) t518) ∧ Aside0 (Kd.R (Kd.int .u8) 5 wc w.heap.size (fun k_ => some k_ ≠ (v526 : Value).ownBlock ∧ some k_ ≠ (v534 : Value).ownBlock ∧ some k_ ≠ ((.slice Ao20 t518.length co20) : Value).ownBlock) (.slice Ao25 t522.length co25) t522) ∧ Aside0 (wc.heap[gb513]? = some (.cells #[.int .i64 t517, (.slice Ao20 t518.length co20)] 24 (0, 0))) ∧ Aside0 (wc.heap[gb514]? = some (.cells #[.int .i64 t521, (.slice Ao25 t522.length co25)] 24 (0, 0))) ∧ Aside0 (wc.heap[gb515]? = some (.cells #[.int .i64 a2_0, .int .i64 a2_1] 50 (0, 0))) ∧ Aside0 (Below w.heap.size w wc))
  case first =>
    have H := HC10.out
    clear HC10
    by_cases c35 : t528 = true
    · subst c35
      have H1 : (if t532 = true then ((phaetonref24_Same.f t517 t518 t521 t522).bind fun t537 => (phaetonlaw24_ImageOne.j0 k t516 t525 true t533 t536 (((strOfNums t525).toList == (strOfNums t529).toList) != t537))) else (phaetonlaw24_ImageOne.j0 k t516 t525 true t533 t536 false)) = some r := by rw [if_pos rfl] at H; exact H
      clear H
      have H := H1
      clear H1
      by_cases c36 : t532 = true
      · subst c36
        have H1 : ((phaetonref24_Same.f t517 t518 t521 t522).bind fun t537 => (phaetonlaw24_ImageOne.j0 k t516 t525 true t533 t536 (((strOfNums t525).toList == (strOfNums t529).toList) != t537))) = some r := by rw [if_pos rfl] at H; exact H
        clear H
        have H := H1
        clear H1
        replace H := Option.bind_eq_some_iff.mp H
        obtain ⟨t537, A370, H⟩ := H
        replace H : (phaetonlaw24_ImageOne.j0 k t516 t525 true t533 t536 (((strOfNums t525).toList == (strOfNums t529).toList) != t537)) = some r := H
        have A37 := Aside0.mk A370
        clear A370
        have H' := Aside0.mk H
        clear H
        try go_wp2
        have n0_ := Aside0.mk (Kd.R_drew HO520.out)
        have n1_ := Aside0.mk (Kd.R_drew HO524.out)
        have n2_ := Aside0.mk (Kd.R_drew HO527.out)
        have n3_ := Aside0.mk (Kd.R_drew HO531.out)
        have n4_ := Aside0.mk (Kd.R_drew HO535.out)
        have n5_ := Aside0.mk (blk_drew BK513.out)
        have n6_ := Aside0.mk (blk_drew BK514.out)
        have n7_ := Aside0.mk (blk_drew BK515.out)
        have n8_ := Aside0.mk (below_drew1 HB.out)
        clear HO520
        clear HO524
        clear HO527
        clear HO531
        clear HO535
        clear BK513
        clear BK514
        clear BK515
        clear HB
        have HO520 := n0_
        have HO524 := n1_
        have HO527 := n2_
        have HO531 := n3_
        have HO535 := n4_
        have BK513 := n5_
        have BK514 := n6_
        have BK515 := n7_
        have HB := n8_
        clear n0_ n1_ n2_ n3_ n4_ n5_ n6_ n7_ n8_
        skip
        skip
        refine start_ (n := 15) (S := fun w' => w'.cell? ⟨gb513, 0, none⟩ = some (.int .i64 t517) ∧ w'.cell? ⟨gb513, 1, none⟩ = some (.slice Ao20 t518.length co20) ∧ w'.cell? ⟨gb514, 0, none⟩ = some (.int .i64 t521) ∧ w'.cell? ⟨gb514, 1, none⟩ = some (.slice Ao25 t522.length co25) ∧ (convert 22 9 v526).run Try.prog w' = .ok (.string (strOfNums t525)) w' ∧ (convert 22 9 v530).run Try.prog w' = .ok (.string (strOfNums t529)) w') (ds := []) #[false, false, false, false, false, false, false, false, false, false, false, false, false, false, false] (by kernel_rfl) rfl rfl ⟨(blk_cell BK513.out 0).trans rfl, (blk_cell BK513.out 1).trans rfl, (blk_cell BK514.out 0).trans rfl, (blk_cell BK514.out 1).trans rfl, own_string (P := Try.prog) Try.underlying22 Try.underlying5 Try.underlying9 (Kd.own_of_R HO527.out), own_string (P := Try.prog) Try.underlying22 Try.underlying5 Try.underlying9 (Kd.own_of_R HO531.out)⟩ (fun hHeld => ?_); refine with_tabW phaetonlaw24_ImageOne.tab7 phaetonlaw24_ImageOne.bits7 (fun HT_ HW_ => ?_)
        generalize w34.drew = w38 at HO520 HO524 HO527 HO531 HO535 BK513 BK514 BK515 HB hHeld ⊢
        refine pure_ (i := 0) (N := some 40) (v := ?_) (a' := ?_) #[true, false, false, false, false, false, false, false, false, false, false, false, false, false, false] rfl rfl (any_of HT_.out (by kernel_rfl)) (fun _ _ _ h => h) (Or.inl ⟨by rfl, ?_⟩) ?_ ?_
        rotate_left
        · intro w'
          go_simp
          with_reducible rfl
        rotate_left
        · simp only [Act.put, List.setIfInBounds_toArray, List.set_cons_zero, List.set_cons_succ, i64_w, i32_w]
          rfl
        refine pure_ (i := 1) (N := some 41) (v := ?_) (a' := ?_) #[true, true, false, false, false, false, false, false, false, false, false, false, false, false, false] rfl rfl (any_of HT_.out (by kernel_rfl)) (fun _ _ _ h => h) (Or.inl ⟨by rfl, ?_⟩) ?_ ?_
        rotate_left
        · intro w'
          go_simp
          with_reducible rfl
        rotate_left
        · simp only [Act.put, List.setIfInBounds_toArray, List.set_cons_zero, List.set_cons_succ, i64_w, i32_w]
          rfl
        refine pure_ (i := 2) (N := some 42) (v := ?_) (a' := ?_) #[true, true, true, false, false, false, false, false, false, false, false, false, false, false, false] rfl rfl (any_of HT_.out (by kernel_rfl)) (fun _ _ _ h => h) (Or.inl ⟨by rfl, ?_⟩) ?_ ?_
        rotate_left
        · intro w'
          go_simp
          with_reducible rfl
        rotate_left
        · simp only [Act.put, List.setIfInBounds_toArray, List.set_cons_zero, List.set_cons_succ, i64_w, i32_w]
          rfl
        refine pure_ (i := 3) (N := some 43) (v := ?_) (a' := ?_) #[true, true, true, true, false, false, false, false, false, false, false, false, false, false, false] rfl rfl (any_of HT_.out (by kernel_rfl)) (fun _ _ _ h => h) (Or.inl ⟨by rfl, ?_⟩) ?_ ?_
        rotate_left
        · intro w'
          go_simp
          with_reducible rfl
        rotate_left
        · simp only [Act.put, List.setIfInBounds_toArray, List.set_cons_zero, List.set_cons_succ, i64_w, i32_w]
          rfl
        refine pure_ (i := 4) (N := some 44) (v := ?_) (a' := ?_) #[true, true, true, true, true, false, false, false, false, false, false, false, false, false, false] rfl rfl (any_of HT_.out (by kernel_rfl)) (fun _ _ _ h => h) (Or.inl ⟨by rfl, ?_⟩) ?_ ?_
        rotate_left
        · intro w'
          go_simp
          with_reducible rfl
        rotate_left
        · simp only [Act.put, List.setIfInBounds_toArray, List.set_cons_zero, List.set_cons_succ, i64_w, i32_w]
          rfl
        refine pure_ (i := 5) (N := some 45) (v := ?_) (a' := ?_) #[true, true, true, true, true, true, false, false, false, false, false, false, false, false, false] rfl rfl (any_of HT_.out (by kernel_rfl)) (fun _ _ _ h => h) (Or.inl ⟨by rfl, ?_⟩) ?_ ?_
        rotate_left
        · intro w'
          go_simp
          with_reducible rfl
        rotate_left
        · simp only [Act.put, List.setIfInBounds_toArray, List.set_cons_zero, List.set_cons_succ, i64_w, i32_w]
          rfl
        refine take_ (i := 6) (N := some 46) (v := ?_) (a' := ?_) #[true, true, true, true, true, true, true, false, false, false, false, false, false, false, false] rfl rfl (take_ofW HT_.out HW_.out (by kernel_rfl)) (fun _ _ _ h => h) (Or.inl ⟨by rfl, ?_⟩) hHeld ?_ ?_
        rotate_left
        · rintro w' ⟨s0, s1, s2, s3, s4, s5⟩
          go_simp
          with_reducible rfl
        rotate_left
        · simp only [Act.put, List.setIfInBounds_toArray, List.set_cons_zero, List.set_cons_succ, i64_w, i32_w]
          rfl
        refine pure_ (i := 7) (N := some 47) (v := ?_) (a' := ?_) #[true, true, true, true, true, true, true, true, false, false, false, false, false, false, false] rfl rfl (any_of HT_.out (by kernel_rfl)) (fun _ _ _ h => h) (Or.inl ⟨by rfl, ?_⟩) ?_ ?_
        rotate_left
        · intro w'
          go_simp
          with_reducible rfl
        rotate_left
        · simp only [Act.put, List.setIfInBounds_toArray, List.set_cons_zero, List.set_cons_succ, i64_w, i32_w]
          rfl
        refine take_ (i := 8) (N := some 48) (v := ?_) (a' := ?_) #[true, true, true, true, true, true, true, true, true, false, false, false, false, false, false] rfl rfl (take_ofW HT_.out HW_.out (by kernel_rfl)) (fun _ _ _ h => h) (Or.inl ⟨by rfl, ?_⟩) hHeld ?_ ?_
        rotate_left
        · rintro w' ⟨s0, s1, s2, s3, s4, s5⟩
          go_simp
          with_reducible rfl
        rotate_left
        · simp only [Act.put, List.setIfInBounds_toArray, List.set_cons_zero, List.set_cons_succ, i64_w, i32_w]
          rfl
        refine pure_ (i := 9) (N := some 49) (v := ?_) (a' := ?_) #[true, true, true, true, true, true, true, true, true, true, false, false, false, false, false] rfl rfl (any_of HT_.out (by kernel_rfl)) (fun _ _ _ h => h) (Or.inl ⟨by rfl, ?_⟩) ?_ ?_
        rotate_left
        · intro w'
          go_simp
          with_reducible rfl
        rotate_left
        · simp only [Act.put, List.setIfInBounds_toArray, List.set_cons_zero, List.set_cons_succ, i64_w, i32_w]
          rfl
        refine take_ (i := 10) (N := some 50) (v := ?_) (a' := ?_) #[true, true, true, true, true, true, true, true, true, true, true, false, false, false, false] rfl rfl (take_ofW HT_.out HW_.out (by kernel_rfl)) (fun _ _ _ h => h) (Or.inl ⟨by rfl, ?_⟩) hHeld ?_ ?_
        rotate_left
        · rintro w' ⟨s0, s1, s2, s3, s4, s5⟩
          go_simp
          with_reducible rfl
        rotate_left
        · simp only [Act.put, List.setIfInBounds_toArray, List.set_cons_zero, List.set_cons_succ, i64_w, i32_w]
          rfl
        refine take_ (i := 11) (N := some 51) (v := ?_) (a' := ?_) #[true, true, true, true, true, true, true, true, true, true, true, true, false, false, false] rfl rfl (take_ofW HT_.out HW_.out (by kernel_rfl)) (fun _ _ _ h => h) (Or.inl ⟨by rfl, ?_⟩) hHeld ?_ ?_
        rotate_left
        · rintro w' ⟨s0, s1, s2, s3, s4, s5⟩
          go_simp
          with_reducible rfl
        rotate_left
        · simp only [Act.put, List.setIfInBounds_toArray, List.set_cons_zero, List.set_cons_succ, i64_w, i32_w]
          rfl
        refine one_ (i := 12) (N := some 52) #[true, true, true, true, true, true, true, true, true, true, true, true, true, false, false] rfl rfl (one_of HT_.out (by kernel_rfl)) (by decide) (fun K hK => ?_)
        refine goes_ Try.func19 (by kernel_rfl) rfl #[.agg #[.int .i64 t517, .slice Ao20 t518.length co20], .agg #[.int .i64 t521, .slice Ao25 t522.length co25]] (by rfl) rfl rfl (by (try simp only [List.map_toArray, List.map_cons, List.map_nil]); first | done | rfl | (simp only [List.length_drop, List.length_take]; rfl)) ?_
        with_reducible refine (phaetonref24_Same.calls t517 _ _ t518 t521 _ _ t522 t537 _ ?side1 ?side2 ?side3 ?side4 A37.out).mono ?_
        (case side1 => repeat (first | exact (Kd.R_reads' HO520.out).2.2 | (with_reducible refine Kd.C_alloc ?_ _) | (with_reducible refine Kd.C_drewN ?_ _) | (with_reducible refine Kd.C_drew ?_)))
        (case side2 => exact (Kd.R_reads' HO520.out).2.1)
        (case side3 => repeat (first | exact (Kd.R_reads' HO524.out).2.2 | (with_reducible refine Kd.C_alloc ?_ _) | (with_reducible refine Kd.C_drewN ?_ _) | (with_reducible refine Kd.C_drew ?_)))
        (case side4 => exact (Kd.R_reads' HO524.out).2.1)
        rintro e w41 ⟨rfl, hb⟩
        refine ⟨_, rfl, ?_⟩
        have n0_ := Aside0.mk (Kd.R_below (by (with_reducible repeat (first | apply Kd.R_alloc | apply Kd.R_drewN | apply Kd.R_drew)); exact HO520.out) hb)
        have n1_ := Aside0.mk (Kd.R_below (by (with_reducible repeat (first | apply Kd.R_alloc | apply Kd.R_drewN | apply Kd.R_drew)); exact HO524.out) hb)
        have n2_ := Aside0.mk (Kd.R_below (by (with_reducible repeat (first | apply Kd.R_alloc | apply Kd.R_drewN | apply Kd.R_drew)); exact HO527.out) hb)
        have n3_ := Aside0.mk (Kd.R_below (by (with_reducible repeat (first | apply Kd.R_alloc | apply Kd.R_drewN | apply Kd.R_drew)); exact HO531.out) hb)
        have n4_ := Aside0.mk (Kd.R_below (by (with_reducible repeat (first | apply Kd.R_alloc | apply Kd.R_drewN | apply Kd.R_drew)); exact HO535.out) hb)
        have n5_ := Aside0.mk (blk_below (g := gb513) (o := .cells #[.int .i64 t517, .slice Ao20 t518.length co20] 24 (0, 0)) (by (with_reducible repeat (first | refine blk_drewN ?_ _ | refine blk_drew ?_ | refine blk_alloc ?_ _)); exact BK513.out) hb)
        have n6_ := Aside0.mk (blk_below (g := gb514) (o := .cells #[.int .i64 t521, .slice Ao25 t522.length co25] 24 (0, 0)) (by (with_reducible repeat (first | refine blk_drewN ?_ _ | refine blk_drew ?_ | refine blk_alloc ?_ _)); exact BK514.out) hb)
        have n7_ := Aside0.mk (blk_below (g := gb515) (o := .cells #[.int .i64 a2_0, .int .i64 a2_1] 50 (0, 0)) (by (with_reducible repeat (first | refine blk_drewN ?_ _ | refine blk_drew ?_ | refine blk_alloc ?_ _)); exact BK515.out) hb)
        have n8_ := Aside0.mk (below_step (by repeat (first | (with_reducible first | exact HB.out | apply below_alloc | apply pw_below_drewN | apply below_drew1 | refine below_set ?_ GE513.out | refine below_set ?_ GE514.out | refine below_set ?_ GE515.out) | exact HB.out)) hb)
        clear HO520
        clear HO524
        clear HO527
        clear HO531
        clear HO535
        clear BK513
        clear BK514
        clear BK515
        clear HB
        have HO520 := n0_
        have HO524 := n1_
        have HO527 := n2_
        have HO531 := n3_
        have HO535 := n4_
        have BK513 := n5_
        have BK514 := n6_
        have BK515 := n7_
        have HB := n8_
        clear n0_ n1_ n2_ n3_ n4_ n5_ n6_ n7_ n8_
        (try clear hb)
        (try clear hb2)
        (try clear hk)
        (try clear hi)
        refine hK.out _ _ ⟨(blk_cell BK513.out 0).trans rfl, (blk_cell BK513.out 1).trans rfl, (blk_cell BK514.out 0).trans rfl, (blk_cell BK514.out 1).trans rfl, own_string (P := Try.prog) Try.underlying22 Try.underlying5 Try.underlying9 (Kd.own_of_R HO527.out), own_string (P := Try.prog) Try.underlying22 Try.underlying5 Try.underlying9 (Kd.own_of_R HO531.out)⟩ (fun hHeld => ?_)
        clear hK K
        refine norm_ (a' := ?_) ?_ ?_
        rotate_left
        · show Act.put _ (some 52) _ = _
          simp only [Act.put, List.setIfInBounds_toArray, List.set_cons_zero, List.set_cons_succ, i64_w, i32_w]
          rfl
        refine pure_ (i := 13) (N := some 53) (v := ?_) (a' := ?_) #[true, true, true, true, true, true, true, true, true, true, true, true, true, true, false] rfl rfl (any_of HT_.out (by kernel_rfl)) (fun _ _ _ h => h) (Or.inl ⟨by rfl, ?_⟩) ?_ ?_
        rotate_left
        · intro w'
          go_simp
          with_reducible rfl
        rotate_left
        · simp only [Act.put, List.setIfInBounds_toArray, List.set_cons_zero, List.set_cons_succ, i64_w, i32_w]
          rfl
        refine pure_ (i := 14) (N := some 54) (v := ?_) (a' := ?_) #[true, true, true, true, true, true, true, true, true, true, true, true, true, true, true] rfl rfl (any_of HT_.out (by kernel_rfl)) (fun _ _ _ h => h) (Or.inl ⟨by rfl, ?_⟩) ?_ ?_
        rotate_left
        · intro w'
          go_simp
          with_reducible rfl
        rotate_left
        · simp only [Act.put, List.setIfInBounds_toArray, List.set_cons_zero, List.set_cons_succ, i64_w, i32_w]
          rfl
        refine done_ (done_of HT_.out (by kernel_rfl)) ?_
        try go_wp2
        go_meet
        case rel => exact ⟨_, ((((strOfNums t525).toList == (strOfNums t529).toList) != t537)), (by first | rfl | (simp; done) | (simp [*]; done)), H', ⟨by first | omega | exact Nat.le_refl _⟩, ⟨by (with_reducible repeat (first | apply Kd.R_alloc | apply Kd.R_drewN | apply Kd.R_drew)); exact Kd.R_mono HO527.out (fun _ hk => by refine ⟨?_, ?_, ?_⟩ <;> first | exact hk.2 | exact hk.1.2 | exact hk.1.1.2 | exact hk.1.1.1.2 | exact hk.1.1.1.1.2 | exact hk.1 | exact hk.2.1 | exact hk.2.2 | exact hk.2.2.1 | exact hk.2.2.2 | exact hk.1.1 | exact hk.1.2.1 | exact hk.1.2.2)⟩, ⟨by (with_reducible repeat (first | apply Kd.R_alloc | apply Kd.R_drewN | apply Kd.R_drew)); exact Kd.R_mono HO535.out (fun _ hk => by refine ⟨?_, ?_, ?_⟩ <;> first | exact hk.2 | exact hk.1.2 | exact hk.1.1.2 | exact hk.1.1.1.2 | exact hk.1.1.1.1.2 | exact hk.1 | exact hk.2.1 | exact hk.2.2 | exact hk.2.2.1 | exact hk.2.2.2 | exact hk.1.1 | exact hk.1.2.1 | exact hk.1.2.2)⟩, ⟨by (with_reducible repeat (first | apply Kd.R_alloc | apply Kd.R_drewN | apply Kd.R_drew)); exact Kd.R_mono HO520.out (fun _ hk => by refine ⟨?_, ?_, ?_⟩ <;> first | exact hk.2 | exact hk.1.2 | exact hk.1.1.2 | exact hk.1.1.1.2 | exact hk.1.1.1.1.2 | exact hk.1 | exact hk.2.1 | exact hk.2.2 | exact hk.2.2.1 | exact hk.2.2.2 | exact hk.1.1 | exact hk.1.2.1 | exact hk.1.2.2)⟩, ⟨by (with_reducible repeat (first | apply Kd.R_alloc | apply Kd.R_drewN | apply Kd.R_drew)); exact Kd.R_mono HO524.out (fun _ hk => by refine ⟨?_, ?_, ?_⟩ <;> first | exact hk.2 | exact hk.1.2 | exact hk.1.1.2 | exact hk.1.1.1.2 | exact hk.1.1.1.1.2 | exact hk.1 | exact hk.2.1 | exact hk.2.2 | exact hk.2.2.1 | exact hk.2.2.2 | exact hk.1.1 | exact hk.1.2.1 | exact hk.1.2.2)⟩, ⟨by (with_reducible repeat (first | refine blk_drewN ?_ _ | refine blk_drew ?_ | refine blk_alloc ?_ _)); exact BK513.out⟩, ⟨by (with_reducible repeat (first | refine blk_drewN ?_ _ | refine blk_drew ?_ | refine blk_alloc ?_ _)); exact BK514.out⟩, ⟨by (with_reducible repeat (first | refine blk_drewN ?_ _ | refine blk_drew ?_ | refine blk_alloc ?_ _)); exact BK515.out⟩, ⟨by repeat (first | (with_reducible first | exact HB.out | apply below_alloc | apply pw_below_drewN | apply below_drew1 | refine below_set ?_ GE513.out | refine below_set ?_ GE514.out | refine below_set ?_ GE515.out) | exact HB.out)⟩⟩
      · replace c36 := Bool.eq_false_iff.mpr c36
        subst c36
        have H1 : (phaetonlaw24_ImageOne.j0 k t516 t525 true t533 t536 false) = some r := by rw [if_neg (show ¬ (false = true) by decide)] at H; exact H
        clear H
        have H := H1
        clear H1
        have H' := Aside0.mk H
        clear H
        try go_wp2
        have n0_ := Aside0.mk (Kd.R_drew HO520.out)
        have n1_ := Aside0.mk (Kd.R_drew HO524.out)
        have n2_ := Aside0.mk (Kd.R_drew HO527.out)
        have n3_ := Aside0.mk (Kd.R_drew HO531.out)
        have n4_ := Aside0.mk (Kd.R_drew HO535.out)
        have n5_ := Aside0.mk (blk_drew BK513.out)
        have n6_ := Aside0.mk (blk_drew BK514.out)
        have n7_ := Aside0.mk (blk_drew BK515.out)
        have n8_ := Aside0.mk (below_drew1 HB.out)
        clear HO520
        clear HO524
        clear HO527
        clear HO531
        clear HO535
        clear BK513
        clear BK514
        clear BK515
        clear HB
        have HO520 := n0_
        have HO524 := n1_
        have HO527 := n2_
        have HO531 := n3_
        have HO535 := n4_
        have BK513 := n5_
        have BK514 := n6_
        have BK515 := n7_
        have HB := n8_
        clear n0_ n1_ n2_ n3_ n4_ n5_ n6_ n7_ n8_
        refine start_ (n := 15) (S := fun w' => True) (ds := []) #[false, false, false, false, false, false, false, false, false, false, false, false, false, false, false] (by kernel_rfl) rfl rfl trivial (fun hHeld => ?_); refine with_tabW phaetonlaw24_ImageOne.tab7 phaetonlaw24_ImageOne.bits7 (fun HT_ HW_ => ?_)
        generalize w34.drew = w43 at HO520 HO524 HO527 HO531 HO535 BK513 BK514 BK515 HB hHeld ⊢
        refine pure_ (i := 0) (N := some 40) (v := ?_) (a' := ?_) #[true, false, false, false, false, false, false, false, false, false, false, false, false, false, false] rfl rfl (any_of HT_.out (by kernel_rfl)) (fun _ _ _ h => h) (Or.inl ⟨by rfl, ?_⟩) ?_ ?_
        rotate_left
        · intro w'
          go_simp
          with_reducible rfl
        rotate_left
        · simp only [Act.put, List.setIfInBounds_toArray, List.set_cons_zero, List.set_cons_succ, i64_w, i32_w]
          rfl
        refine pure_ (i := 1) (N := some 41) (v := ?_) (a' := ?_) #[true, true, false, false, false, false, false, false, false, false, false, false, false, false, false] rfl rfl (any_of HT_.out (by kernel_rfl)) (fun _ _ _ h => h) (Or.inl ⟨by rfl, ?_⟩) ?_ ?_
        rotate_left
        · intro w'
          go_simp
          with_reducible rfl
        rotate_left
        · simp only [Act.put, List.setIfInBounds_toArray, List.set_cons_zero, List.set_cons_succ, i64_w, i32_w]
          rfl
        refine pure_ (i := 2) (N := some 42) (v := ?_) (a' := ?_) #[true, true, true, false, false, false, false, false, false, false, false, false, false, false, false] rfl rfl (any_of HT_.out (by kernel_rfl)) (fun _ _ _ h => h) (Or.inl ⟨by rfl, ?_⟩) ?_ ?_
        rotate_left
        · intro w'
          go_simp
          with_reducible rfl
        rotate_left
        · simp only [Act.put, List.setIfInBounds_toArray, List.set_cons_zero, List.set_cons_succ, i64_w, i32_w]
          rfl
        refine pure_ (i := 3) (N := some 43) (v := ?_) (a' := ?_) #[true, true, true, true, false, false, false, false, false, false, false, false, false, false, false] rfl rfl (any_of HT_.out (by kernel_rfl)) (fun _ _ _ h => h) (Or.inl ⟨by rfl, ?_⟩) ?_ ?_
        rotate_left
        · intro w'
          go_simp
          with_reducible rfl
        rotate_left
        · simp only [Act.put, List.setIfInBounds_toArray, List.set_cons_zero, List.set_cons_succ, i64_w, i32_w]
          rfl
        refine pure_ (i := 4) (N := some 44) (v := ?_) (a' := ?_) #[true, true, true, true, true, false, false, false, false, false, false, false, false, false, false] rfl rfl (any_of HT_.out (by kernel_rfl)) (fun _ _ _ h => h) (Or.inl ⟨by rfl, ?_⟩) ?_ ?_
        rotate_left
        · intro w'
          go_simp
          with_reducible rfl
        rotate_left
        · simp only [Act.put, List.setIfInBounds_toArray, List.set_cons_zero, List.set_cons_succ, i64_w, i32_w]
          rfl
        refine pure_ (i := 5) (N := some 45) (v := undef) (a' := ?_) #[true, true, true, true, true, true, false, false, false, false, false, false, false, false, false] rfl rfl (any_of HT_.out (by kernel_rfl)) (fun _ _ _ h => h) (Or.inr ⟨by rfl, rfl⟩) ?_ ?_
        rotate_left
        · simp only [Act.put, List.setIfInBounds_toArray, List.set_cons_zero, List.set_cons_succ, i64_w, i32_w]
          rfl
        refine pure_ (i := 6) (N := some 46) (v := undef) (a' := ?_) #[true, true, true, true, true, true, true, false, false, false, false, false, false, false, false] rfl rfl (any_of HT_.out (by kernel_rfl)) (fun _ _ _ h => h) (Or.inr ⟨by rfl, rfl⟩) ?_ ?_
        rotate_left
        · simp only [Act.put, List.setIfInBounds_toArray, List.set_cons_zero, List.set_cons_succ, i64_w, i32_w]
          rfl
        refine pure_ (i := 7) (N := some 47) (v := undef) (a' := ?_) #[true, true, true, true, true, true, true, true, false, false, false, false, false, false, false] rfl rfl (any_of HT_.out (by kernel_rfl)) (fun _ _ _ h => h) (Or.inr ⟨by rfl, rfl⟩) ?_ ?_
        rotate_left
        · simp only [Act.put, List.setIfInBounds_toArray, List.set_cons_zero, List.set_cons_succ, i64_w, i32_w]
          rfl
        refine pure_ (i := 8) (N := some 48) (v := undef) (a' := ?_) #[true, true, true, true, true, true, true, true, true, false, false, false, false, false, false] rfl rfl (any_of HT_.out (by kernel_rfl)) (fun _ _ _ h => h) (Or.inr ⟨by rfl, rfl⟩) ?_ ?_
        rotate_left
        · simp only [Act.put, List.setIfInBounds_toArray, List.set_cons_zero, List.set_cons_succ, i64_w, i32_w]
          rfl
        refine pure_ (i := 9) (N := some 49) (v := undef) (a' := ?_) #[true, true, true, true, true, true, true, true, true, true, false, false, false, false, false] rfl rfl (any_of HT_.out (by kernel_rfl)) (fun _ _ _ h => h) (Or.inr ⟨by rfl, rfl⟩) ?_ ?_
        rotate_left
        · simp only [Act.put, List.setIfInBounds_toArray, List.set_cons_zero, List.set_cons_succ, i64_w, i32_w]
          rfl
        refine pure_ (i := 10) (N := some 50) (v := undef) (a' := ?_) #[true, true, true, true, true, true, true, true, true, true, true, false, false, false, false] rfl rfl (any_of HT_.out (by kernel_rfl)) (fun _ _ _ h => h) (Or.inr ⟨by rfl, rfl⟩) ?_ ?_
        rotate_left
        · simp only [Act.put, List.setIfInBounds_toArray, List.set_cons_zero, List.set_cons_succ, i64_w, i32_w]
          rfl
        refine pure_ (i := 11) (N := some 51) (v := undef) (a' := ?_) #[true, true, true, true, true, true, true, true, true, true, true, true, false, false, false] rfl rfl (any_of HT_.out (by kernel_rfl)) (fun _ _ _ h => h) (Or.inr ⟨by rfl, rfl⟩) ?_ ?_
        rotate_left
        · simp only [Act.put, List.setIfInBounds_toArray, List.set_cons_zero, List.set_cons_succ, i64_w, i32_w]
          rfl
        refine pure_ (i := 12) (N := some 52) (v := undef) (a' := ?_) #[true, true, true, true, true, true, true, true, true, true, true, true, true, false, false] rfl rfl (any_of HT_.out (by kernel_rfl)) (fun _ _ _ h => h) (Or.inr ⟨by rfl, rfl⟩) ?_ ?_
        rotate_left
        · simp only [Act.put, List.setIfInBounds_toArray, List.set_cons_zero, List.set_cons_succ, i64_w, i32_w]
          rfl
        refine pure_ (i := 13) (N := some 53) (v := undef) (a' := ?_) #[true, true, true, true, true, true, true, true, true, true, true, true, true, true, false] rfl rfl (any_of HT_.out (by kernel_rfl)) (fun _ _ _ h => h) (Or.inr ⟨by rfl, rfl⟩) ?_ ?_
        rotate_left
        · simp only [Act.put, List.setIfInBounds_toArray, List.set_cons_zero, List.set_cons_succ, i64_w, i32_w]
          rfl
        refine pure_ (i := 14) (N := some 54) (v := ?_) (a' := ?_) #[true, true, true, true, true, true, true, true, true, true, true, true, true, true, true] rfl rfl (any_of HT_.out (by kernel_rfl)) (fun _ _ _ h => h) (Or.inl ⟨by rfl, ?_⟩) ?_ ?_
        rotate_left
        · intro w'
          go_simp
          with_reducible rfl
        rotate_left
        · simp only [Act.put, List.setIfInBounds_toArray, List.set_cons_zero, List.set_cons_succ, i64_w, i32_w]
          rfl
        refine done_ (done_of HT_.out (by kernel_rfl)) ?_
        try go_wp2
        go_meet
        case rel => exact ⟨_, (false), (by first | rfl | (simp; done) | (simp [*]; done)), H', ⟨by first | omega | exact Nat.le_refl _⟩, ⟨by (with_reducible repeat (first | apply Kd.R_alloc | apply Kd.R_drewN | apply Kd.R_drew)); exact Kd.R_mono HO527.out (fun _ hk => by refine ⟨?_, ?_, ?_⟩ <;> first | exact hk.2 | exact hk.1.2 | exact hk.1.1.2 | exact hk.1.1.1.2 | exact hk.1.1.1.1.2 | exact hk.1 | exact hk.2.1 | exact hk.2.2 | exact hk.2.2.1 | exact hk.2.2.2 | exact hk.1.1 | exact hk.1.2.1 | exact hk.1.2.2)⟩, ⟨by (with_reducible repeat (first | apply Kd.R_alloc | apply Kd.R_drewN | apply Kd.R_drew)); exact Kd.R_mono HO535.out (fun _ hk => by refine ⟨?_, ?_, ?_⟩ <;> first | exact hk.2 | exact hk.1.2 | exact hk.1.1.2 | exact hk.1.1.1.2 | exact hk.1.1.1.1.2 | exact hk.1 | exact hk.2.1 | exact hk.2.2 | exact hk.2.2.1 | exact hk.2.2.2 | exact hk.1.1 | exact hk.1.2.1 | exact hk.1.2.2)⟩, ⟨by (with_reducible repeat (first | apply Kd.R_alloc | apply Kd.R_drewN | apply Kd.R_drew)); exact Kd.R_mono HO520.out (fun _ hk => by refine ⟨?_, ?_, ?_⟩ <;> first | exact hk.2 | exact hk.1.2 | exact hk.1.1.2 | exact hk.1.1.1.2 | exact hk.1.1.1.1.2 | exact hk.1 | exact hk.2.1 | exact hk.2.2 | exact hk.2.2.1 | exact hk.2.2.2 | exact hk.1.1 | exact hk.1.2.1 | exact hk.1.2.2)⟩, ⟨by (with_reducible repeat (first | apply Kd.R_alloc | apply Kd.R_drewN | apply Kd.R_drew)); exact Kd.R_mono HO524.out (fun _ hk => by refine ⟨?_, ?_, ?_⟩ <;> first | exact hk.2 | exact hk.1.2 | exact hk.1.1.2 | exact hk.1.1.1.2 | exact hk.1.1.1.1.2 | exact hk.1 | exact hk.2.1 | exact hk.2.2 | exact hk.2.2.1 | exact hk.2.2.2 | exact hk.1.1 | exact hk.1.2.1 | exact hk.1.2.2)⟩, ⟨by (with_reducible repeat (first | refine blk_drewN ?_ _ | refine blk_drew ?_ | refine blk_alloc ?_ _)); exact BK513.out⟩, ⟨by (with_reducible repeat (first | refine blk_drewN ?_ _ | refine blk_drew ?_ | refine blk_alloc ?_ _)); exact BK514.out⟩, ⟨by (with_reducible repeat (first | refine blk_drewN ?_ _ | refine blk_drew ?_ | refine blk_alloc ?_ _)); exact BK515.out⟩, ⟨by repeat (first | (with_reducible first | exact HB.out | apply below_alloc | apply pw_below_drewN | apply below_drew1 | refine below_set ?_ GE513.out | refine below_set ?_ GE514.out | refine below_set ?_ GE515.out) | exact HB.out)⟩⟩
    · replace c35 := Bool.eq_false_iff.mpr c35
      subst c35
      have H1 : (phaetonlaw24_ImageOne.j0 k t516 t525 false t533 t536 false) = some r := by rw [if_neg (show ¬ (false = true) by decide)] at H; exact H
      clear H
      have H := H1
      clear H1
      have H' := Aside0.mk H
      clear H
      try go_wp2
      have n0_ := Aside0.mk (Kd.R_drew HO520.out)
      have n1_ := Aside0.mk (Kd.R_drew HO524.out)
      have n2_ := Aside0.mk (Kd.R_drew HO527.out)
      have n3_ := Aside0.mk (Kd.R_drew HO531.out)
      have n4_ := Aside0.mk (Kd.R_drew HO535.out)
      have n5_ := Aside0.mk (blk_drew BK513.out)
      have n6_ := Aside0.mk (blk_drew BK514.out)
      have n7_ := Aside0.mk (blk_drew BK515.out)
      have n8_ := Aside0.mk (below_drew1 HB.out)
      clear HO520
      clear HO524
      clear HO527
      clear HO531
      clear HO535
      clear BK513
      clear BK514
      clear BK515
      clear HB
      have HO520 := n0_
      have HO524 := n1_
      have HO527 := n2_
      have HO531 := n3_
      have HO535 := n4_
      have BK513 := n5_
      have BK514 := n6_
      have BK515 := n7_
      have HB := n8_
      clear n0_ n1_ n2_ n3_ n4_ n5_ n6_ n7_ n8_
      refine start_ (n := 15) (S := fun w' => True) (ds := []) #[false, false, false, false, false, false, false, false, false, false, false, false, false, false, false] (by kernel_rfl) rfl rfl trivial (fun hHeld => ?_); refine with_tabW phaetonlaw24_ImageOne.tab7 phaetonlaw24_ImageOne.bits7 (fun HT_ HW_ => ?_)
      generalize w34.drew = w44 at HO520 HO524 HO527 HO531 HO535 BK513 BK514 BK515 HB hHeld ⊢
      refine pure_ (i := 0) (N := some 40) (v := ?_) (a' := ?_) #[true, false, false, false, false, false, false, false, false, false, false, false, false, false, false] rfl rfl (any_of HT_.out (by kernel_rfl)) (fun _ _ _ h => h) (Or.inl ⟨by rfl, ?_⟩) ?_ ?_
      rotate_left
      · intro w'
        go_simp
        with_reducible rfl
      rotate_left
      · simp only [Act.put, List.setIfInBounds_toArray, List.set_cons_zero, List.set_cons_succ, i64_w, i32_w]
        rfl
      refine pure_ (i := 1) (N := some 41) (v := ?_) (a' := ?_) #[true, true, false, false, false, false, false, false, false, false, false, false, false, false, false] rfl rfl (any_of HT_.out (by kernel_rfl)) (fun _ _ _ h => h) (Or.inl ⟨by rfl, ?_⟩) ?_ ?_
      rotate_left
      · intro w'
        go_simp
        with_reducible rfl
      rotate_left
      · simp only [Act.put, List.setIfInBounds_toArray, List.set_cons_zero, List.set_cons_succ, i64_w, i32_w]
        rfl
      refine pure_ (i := 2) (N := some 42) (v := undef) (a' := ?_) #[true, true, true, false, false, false, false, false, false, false, false, false, false, false, false] rfl rfl (any_of HT_.out (by kernel_rfl)) (fun _ _ _ h => h) (Or.inr ⟨by rfl, rfl⟩) ?_ ?_
      rotate_left
      · simp only [Act.put, List.setIfInBounds_toArray, List.set_cons_zero, List.set_cons_succ, i64_w, i32_w]
        rfl
      refine pure_ (i := 3) (N := some 43) (v := ?_) (a' := ?_) #[true, true, true, true, false, false, false, false, false, false, false, false, false, false, false] rfl rfl (any_of HT_.out (by kernel_rfl)) (fun _ _ _ h => h) (Or.inl ⟨by rfl, ?_⟩) ?_ ?_
      rotate_left
      · intro w'
        go_simp
        with_reducible rfl
      rotate_left
      · simp only [Act.put, List.setIfInBounds_toArray, List.set_cons_zero, List.set_cons_succ, i64_w, i32_w]
        rfl
      refine pure_ (i := 4) (N := some 44) (v := ?_) (a' := ?_) #[true, true, true, true, true, false, false, false, false, false, false, false, false, false, false] rfl rfl (any_of HT_.out (by kernel_rfl)) (fun _ _ _ h => h) (Or.inl ⟨by rfl, ?_⟩) ?_ ?_
      rotate_left
      · intro w'
        go_simp
        with_reducible rfl
      rotate_left
      · simp only [Act.put, List.setIfInBounds_toArray, List.set_cons_zero, List.set_cons_succ, i64_w, i32_w]
        rfl
      refine pure_ (i := 5) (N := some 45) (v := undef) (a' := ?_) #[true, true, true, true, true, true, false, false, false, false, false, false, false, false, false] rfl rfl (any_of HT_.out (by kernel_rfl)) (fun _ _ _ h => h) (Or.inr ⟨by rfl, rfl⟩) ?_ ?_
      rotate_left
      · simp only [Act.put, List.setIfInBounds_toArray, List.set_cons_zero, List.set_cons_succ, i64_w, i32_w]
        rfl
      refine pure_ (i := 6) (N := some 46) (v := undef) (a' := ?_) #[true, true, true, true, true, true, true, false, false, false, false, false, false, false, false] rfl rfl (any_of HT_.out (by kernel_rfl)) (fun _ _ _ h => h) (Or.inr ⟨by rfl, rfl⟩) ?_ ?_
      rotate_left
      · simp only [Act.put, List.setIfInBounds_toArray, List.set_cons_zero, List.set_cons_succ, i64_w, i32_w]
        rfl
      refine pure_ (i := 7) (N := some 47) (v := undef) (a' := ?_) #[true, true, true, true, true, true, true, true, false, false, false, false, false, false, false] rfl rfl (any_of HT_.out (by kernel_rfl)) (fun _ _ _ h => h) (Or.inr ⟨by rfl, rfl⟩) ?_ ?_
      rotate_left
      · simp only [Act.put, List.setIfInBounds_toArray, List.set_cons_zero, List.set_cons_succ, i64_w, i32_w]
        rfl
      refine pure_ (i := 8) (N := some 48) (v := undef) (a' := ?_) #[true, true, true, true, true, true, true, true, true, false, false, false, false, false, false] rfl rfl (any_of HT_.out (by kernel_rfl)) (fun _ _ _ h => h) (Or.inr ⟨by rfl, rfl⟩) ?_ ?_
      rotate_left
      · simp only [Act.put, List.setIfInBounds_toArray, List.set_cons_zero, List.set_cons_succ, i64_w, i32_w]
        rfl
      refine pure_ (i := 9) (N := some 49) (v := undef) (a' := ?_) #[true, true, true, true, true, true, true, true, true, true, false, false, false, false, false] rfl rfl (any_of HT_.out (by kernel_rfl)) (fun _ _ _ h => h) (Or.inr ⟨by rfl, rfl⟩) ?_ ?_
      rotate_left
      · simp only [Act.put, List.setIfInBounds_toArray, List.set_cons_zero, List.set_cons_succ, i64_w, i32_w]
        rfl
      refine pure_ (i := 10) (N := some 50) (v := undef) (a' := ?_) #[true, true, true, true, true, true, true, true, true, true, true, false, false, false, false] rfl rfl (any_of HT_.out (by kernel_rfl)) (fun _ _ _ h => h) (Or.inr ⟨by rfl, rfl⟩) ?_ ?_
      rotate_left
      · simp only [Act.put, List.setIfInBounds_toArray, List.set_cons_zero, List.set_cons_succ, i64_w, i32_w]
        rfl
      refine pure_ (i := 11) (N := some 51) (v := undef) (a' := ?_) #[true, true, true, true, true, true, true, true, true, true, true, true, false, false, false] rfl rfl (any_of HT_.out (by kernel_rfl)) (fun _ _ _ h => h) (Or.inr ⟨by rfl, rfl⟩) ?_ ?_
      rotate_left
      · simp only [Act.put, List.setIfInBounds_toArray, List.set_cons_zero, List.set_cons_succ, i64_w, i32_w]
        rfl
      refine pure_ (i := 12) (N := some 52) (v := undef) (a' := ?_) #[true, true, true, true, true, true, true, true, true, true, true, true, true, false, false] rfl rfl (any_of HT_.out (by kernel_rfl)) (fun _ _ _ h => h) (Or.inr ⟨by rfl, rfl⟩) ?_ ?_
      rotate_left
      · simp only [Act.put, List.setIfInBounds_toArray, List.set_cons_zero, List.set_cons_succ, i64_w, i32_w]
        rfl
      refine pure_ (i := 13) (N := some 53) (v := undef) (a' := ?_) #[true, true, true, true, true, true, true, true, true, true, true, true, true, true, false] rfl rfl (any_of HT_.out (by kernel_rfl)) (fun _ _ _ h => h) (Or.inr ⟨by rfl, rfl⟩) ?_ ?_
      rotate_left
      · simp only [Act.put, List.setIfInBounds_toArray, List.set_cons_zero, List.set_cons_succ, i64_w, i32_w]
        rfl
      refine pure_ (i := 14) (N := some 54) (v := ?_) (a' := ?_) #[true, true, true, true, true, true, true, true, true, true, true, true, true, true, true] rfl rfl (any_of HT_.out (by kernel_rfl)) (fun _ _ _ h => h) (Or.inl ⟨by rfl, ?_⟩) ?_ ?_
      rotate_left
      · intro w'
        go_simp
        with_reducible rfl
      rotate_left
      · simp only [Act.put, List.setIfInBounds_toArray, List.set_cons_zero, List.set_cons_succ, i64_w, i32_w]
        rfl
      refine done_ (done_of HT_.out (by kernel_rfl)) ?_
      try go_wp2
      go_meet
      case rel => exact ⟨_, (false), (by first | rfl | (simp; done) | (simp [*]; done)), H', ⟨by first | omega | exact Nat.le_refl _⟩, ⟨by (with_reducible repeat (first | apply Kd.R_alloc | apply Kd.R_drewN | apply Kd.R_drew)); exact Kd.R_mono HO527.out (fun _ hk => by refine ⟨?_, ?_, ?_⟩ <;> first | exact hk.2 | exact hk.1.2 | exact hk.1.1.2 | exact hk.1.1.1.2 | exact hk.1.1.1.1.2 | exact hk.1 | exact hk.2.1 | exact hk.2.2 | exact hk.2.2.1 | exact hk.2.2.2 | exact hk.1.1 | exact hk.1.2.1 | exact hk.1.2.2)⟩, ⟨by (with_reducible repeat (first | apply Kd.R_alloc | apply Kd.R_drewN | apply Kd.R_drew)); exact Kd.R_mono HO535.out (fun _ hk => by refine ⟨?_, ?_, ?_⟩ <;> first | exact hk.2 | exact hk.1.2 | exact hk.1.1.2 | exact hk.1.1.1.2 | exact hk.1.1.1.1.2 | exact hk.1 | exact hk.2.1 | exact hk.2.2 | exact hk.2.2.1 | exact hk.2.2.2 | exact hk.1.1 | exact hk.1.2.1 | exact hk.1.2.2)⟩, ⟨by (with_reducible repeat (first | apply Kd.R_alloc | apply Kd.R_drewN | apply Kd.R_drew)); exact Kd.R_mono HO520.out (fun _ hk => by refine ⟨?_, ?_, ?_⟩ <;> first | exact hk.2 | exact hk.1.2 | exact hk.1.1.2 | exact hk.1.1.1.2 | exact hk.1.1.1.1.2 | exact hk.1 | exact hk.2.1 | exact hk.2.2 | exact hk.2.2.1 | exact hk.2.2.2 | exact hk.1.1 | exact hk.1.2.1 | exact hk.1.2.2)⟩, ⟨by (with_reducible repeat (first | apply Kd.R_alloc | apply Kd.R_drewN | apply Kd.R_drew)); exact Kd.R_mono HO524.out (fun _ hk => by refine ⟨?_, ?_, ?_⟩ <;> first | exact hk.2 | exact hk.1.2 | exact hk.1.1.2 | exact hk.1.1.1.2 | exact hk.1.1.1.1.2 | exact hk.1 | exact hk.2.1 | exact hk.2.2 | exact hk.2.2.1 | exact hk.2.2.2 | exact hk.1.1 | exact hk.1.2.1 | exact hk.1.2.2)⟩, ⟨by (with_reducible repeat (first | refine blk_drewN ?_ _ | refine blk_drew ?_ | refine blk_alloc ?_ _)); exact BK513.out⟩, ⟨by (with_reducible repeat (first | refine blk_drewN ?_ _ | refine blk_drew ?_ | refine blk_alloc ?_ _)); exact BK514.out⟩, ⟨by (with_reducible repeat (first | refine blk_drewN ?_ _ | refine blk_drew ?_ | refine blk_alloc ?_ _)); exact BK515.out⟩, ⟨by repeat (first | (with_reducible first | exact HB.out | apply below_alloc | apply pw_below_drewN | apply below_drew1 | refine below_set ?_ GE513.out | refine below_set ?_ GE514.out | refine below_set ?_ GE515.out) | exact HB.out)⟩⟩
  case rest =>
    clear HC10
    try clear c1
    try clear c2
    try clear p2
    try clear c3
    try clear hcv3
    try clear hcv4
    try clear c10
    try clear c11
    try clear c12
    try clear c13
    try clear c15
    try clear c16
    try clear c19
    try clear c21
    try clear c35
    try clear c36
    try clear hcv39
    try clear hcv40
    try clear hcz17_0
    try clear hcz17_1
    try clear hcz19_0
    try clear hcz19_1
    try clear hcz22_0
    try clear hcz22_1
    try clear hcz24_0
    try clear hcz24_1
    try clear hcz26_0
    try clear hcz26_1
    try clear hcz27_0
    try clear hcz27_1
    try clear hcz29_0
    try clear hcz29_1
    try clear hcz30_0
    try clear hcz30_1
    try clear hcz32_0
    try clear hcz32_1
    try clear hcz33_0
    try clear hcz33_1
    try clear hfz17_0
    try clear hfz17_1
    try clear hfz19_0
    try clear hfz19_1
    try clear hfz22_0
    try clear hfz22_1
    try clear hfz24_0
    try clear hfz24_1
    try clear hfz26_0
    try clear hfz26_1
    try clear hfz27_0
    try clear hfz27_1
    try clear hfz29_0
    try clear hfz29_1
    try clear hfz30_0
    try clear hfz30_1
    try clear hfz32_0
    try clear hfz32_1
    try clear hfz33_0
    try clear hfz33_1
    obtain ⟨kq, x54_9, rfl, HA, HJ9, HO_8, HO_12, HO_514001, HO_515001, BK513, BK514, BK515, HB⟩ := hcut
    cases kq with
    | zero => exact absurd HA.out (by simp [phaetonlaw24_ImageOne.j0])
    | succ kj9 =>
      have H := HA.out
      clear HA
      simp only [phaetonlaw24_ImageOne.j0] at H
      by_cases c45 : x54_9 = true
      · subst c45
        have H1 : (none) = some r := by rw [if_pos rfl] at H; exact H
        clear H
        have H := H1
        clear H1
        exact absurd H (by simp)
      · replace c45 := Bool.eq_false_iff.mpr c45
        subst c45
        have H1 : (if t528 = true then (if t536 = true then (if (t525.length : Int) < 18 then (none) else (if (t533.length : Int) < 18 then (none) else (if 14 ≤ 18 then (if 18 ≤ (t525.length : Int) then (if 18 ≤ (t533.length : Int) then (if (((strOfNums t525).toList == (strOfNums t533).toList) == ((strOfNums ((t525.take 18).drop 14)).toList == (strOfNums ((t533.take 18).drop 14)).toList)) = true then (if t516 = true then (some true) else (none)) else (none)) else (none)) else (none)) else (none)))) else (if t516 = true then (some true) else (none))) else (if t516 = true then (some true) else (none))) = some r := by rw [if_neg (show ¬ (false = true) by decide)] at H; exact H
        clear H
        have H := H1
        clear H1
        by_cases c46 : t528 = true
        · subst c46
          have H1 : (if t536 = true then (if (t525.length : Int) < 18 then (none) else (if (t533.length : Int) < 18 then (none) else (if 14 ≤ 18 then (if 18 ≤ (t525.length : Int) then (if 18 ≤ (t533.length : Int) then (if (((strOfNums t525).toList == (strOfNums t533).toList) == ((strOfNums ((t525.take 18).drop 14)).toList == (strOfNums ((t533.take 18).drop 14)).toList)) = true then (if t516 = true then (some true) else (none)) else (none)) else (none)) else (none)) else (none)))) else (if t516 = true then (some true) else (none))) = some r := by rw [if_pos rfl] at H; exact H
          clear H
          have H := H1
          clear H1
          by_cases c47 : t536 = true
          · subst c47
            have H1 : (if (t525.length : Int) < 18 then (none) else (if (t533.length : Int) < 18 then (none) else (if 14 ≤ 18 then (if 18 ≤ (t525.length : Int) then (if 18 ≤ (t533.length : Int) then (if (((strOfNums t525).toList == (strOfNums t533).toList) == ((strOfNums ((t525.take 18).drop 14)).toList == (strOfNums ((t533.take 18).drop 14)).toList)) = true then (if t516 = true then (some true) else (none)) else (none)) else (none)) else (none)) else (none)))) = some r := by rw [if_pos rfl] at H; exact H
            clear H
            have H := H1
            clear H1
            by_cases c48 : (t525.length : Int) < 18
            · rw [if_pos c48] at H
              exact absurd H (by simp)
            · rw [if_neg c48] at H
              have c48b0 : decide ((t525.length : Int) < 18) = false := decide_eq_false c48
              have c48b1 : decide (t525.length < 18) = false := decide_eq_false (by omega)
              clear c48
              by_cases c49 : (t533.length : Int) < 18
              · rw [if_pos c49] at H
                exact absurd H (by simp)
              · rw [if_neg c49] at H
                have c49b0 : decide ((t533.length : Int) < 18) = false := decide_eq_false c49
                have c49b1 : decide (t533.length < 18) = false := decide_eq_false (by omega)
                clear c49
                by_cases c50 : 14 ≤ 18
                · rw [if_pos c50] at H
                  have c50b0 := eq_true c50
                  have c50b1 : decide (14 ≤ 18) = true := decide_eq_true c50
                  clear c50
                  by_cases c51 : 18 ≤ (t525.length : Int)
                  · rw [if_pos c51] at H
                    have c51b0 := eq_true c51
                    have c51b1 : decide (18 ≤ (t525.length : Int)) = true := decide_eq_true c51
                    clear c51
                    obtain ⟨y538, hy538⟩ : ∃ y_ : List Int, y_ = ((t525.take 18).drop 14) := ⟨_, rfl⟩
                    replace H : (if 18 ≤ (t533.length : Int) then (if (((strOfNums t525).toList == (strOfNums t533).toList) == ((strOfNums y538).toList == (strOfNums ((t533.take 18).drop 14)).toList)) = true then (if t516 = true then (some true) else (none)) else (none)) else (none)) = some r := by first | (rw [hy538]; with_reducible exact H) | (have H2_ := (Option.bind_some _ _).symm.trans H; rw [hy538]; with_reducible exact H2_) | (have H2_ := (Option.bind_some _ _).symm.trans H; with_reducible exact H2_) | with_reducible exact H | (rw [hy538]; exact H) | exact H
                    have Ny538 := Aside0.mk hy538
                    clear hy538
                    have c52b0 := eq_true (of_decide_eq_true (by first | (with_reducible assumption) | assumption) : 14 ≤ 18)
                    by_cases c53 : 18 ≤ (t533.length : Int)
                    · rw [if_pos c53] at H
                      have c53b0 := eq_true c53
                      have c53b1 : decide (18 ≤ (t533.length : Int)) = true := decide_eq_true c53
                      clear c53
                      obtain ⟨y542, hy542⟩ : ∃ y_ : List Int, y_ = ((t533.take 18).drop 14) := ⟨_, rfl⟩
                      replace H : (if (((strOfNums t525).toList == (strOfNums t533).toList) == ((strOfNums y538).toList == (strOfNums y542).toList)) = true then (if t516 = true then (some true) else (none)) else (none)) = some r := by first | (rw [hy542]; with_reducible exact H) | (have H2_ := (Option.bind_some _ _).symm.trans H; rw [hy542]; with_reducible exact H2_) | (have H2_ := (Option.bind_some _ _).symm.trans H; with_reducible exact H2_) | with_reducible exact H | (rw [hy542]; exact H) | exact H
                      have Ny542 := Aside0.mk hy542
                      clear hy542
                      by_cases c54 : (((strOfNums t525).toList == (strOfNums t533).toList) == ((strOfNums y538).toList == (strOfNums y542).toList)) = true
                      · rw [if_pos c54] at H
                        have c54b0 : (((strOfNums t525).toList == (strOfNums t533).toList) == ((strOfNums y538).toList == (strOfNums y542).toList)) = true := c54
                        (try (have c54b1 : decide (((strOfNums t525).toList == (strOfNums t533).toList) = ((strOfNums y538).toList == (strOfNums y542).toList)) = true := by simpa using c54))
                        (try (have c54b2 : (((strOfNums t525).toList == (strOfNums t533).toList) == ((strOfNums y538).toList == (strOfNums y542).toList)) = true := by simpa using c54))
                        clear c54
                        by_cases c55 : t516 = true
                        · subst c55
                          have H1 : (some true) = some r := by rw [if_pos rfl] at H; exact H
                          clear H
                          have H := H1
                          clear H1
                          obtain rfl := Option.some.inj H
                          obtain ⟨Ao56, co56, eo56⟩ := Kd.R_slice HO_8.out
                          subst eo56
                          obtain ⟨Ao57, co57, eo57⟩ := Kd.R_slice HO_12.out
                          subst eo57
                          try go_wp2
                          have n0_ := Aside0.mk (Kd.R_drew HO_8.out)
                          have n1_ := Aside0.mk (Kd.R_drew HO_12.out)
                          have n2_ := Aside0.mk (Kd.R_drew HO_514001.out)
                          have n3_ := Aside0.mk (Kd.R_drew HO_515001.out)
                          have n4_ := Aside0.mk (blk_drew BK513.out)
                          have n5_ := Aside0.mk (blk_drew BK514.out)
                          have n6_ := Aside0.mk (blk_drew BK515.out)
                          have n7_ := Aside0.mk (below_drew1 HB.out)
                          clear HO_8
                          clear HO_12
                          clear HO_514001
                          clear HO_515001
                          clear BK513
                          clear BK514
                          clear BK515
                          clear HB
                          have HO_8 := n0_
                          have HO_12 := n1_
                          have HO_514001 := n2_
                          have HO_515001 := n3_
                          have BK513 := n4_
                          have BK514 := n5_
                          have BK515 := n6_
                          have HB := n7_
                          clear n0_ n1_ n2_ n3_ n4_ n5_ n6_ n7_
                          have q59 : (18 : Int) ≤ ((t525.length : Int) : Int) := of_decide_eq_true (by first | (with_reducible assumption) | assumption)
                          obtain ⟨i059, hi059, _, hsz59, _⟩ := info_parts info5
                          have hroom59 : t525.length ≤ co56 := (Kd.R_reads' HO_8.out).2.1
                          have hC59 : Kd.C (Kd.int .u8) _ Ao56 t525.length t525 := (Kd.R_reads' HO_8.out).2.2
                          have ql59 : (14 : Int) ≤ (18 : Int) := (by omega)
                          have hcut59 := cut_mid (P := Try.prog) 22 5 .i64 .i64 Try.underlying22 hi059 1 hsz59 Ao56 t525.length co56 14 18 (by omega) ql59 q59 hroom59
                          have hr59 := Kd.C_mid (lo := (14 : Int).toNat) (hi := (18 : Int).toNat) (c := co56) hC59 (by omega) (by omega) hroom59
                          obtain ⟨A59, hA59⟩ : ∃ A1, A1 = (if co56 = (14 : Int).toNat then Ao56 else (Ao56 : Option Addr).map (·.add ((14 : Int).toNat * 1))) := ⟨_, rfl⟩
                          obtain ⟨c59, hc59⟩ : ∃ c1, c1 = co56 - (14 : Int).toNat := ⟨_, rfl⟩
                          have hy59 : y538.length = (18 : Int).toNat - (14 : Int).toNat := (by rw [Ny538.out, List.length_drop, List.length_take] <;> omega)
                          rw [show ((t525).take (18 : Int).toNat).drop (14 : Int).toNat = y538 from Ny538.out.symm] at hr59
                          replace hr59 : Kd.C (Kd.int .u8) _ A59 y538.length y538 := (by rw [hA59]; exact hr59)
                          rw [← hy59, ← hA59, ← hc59] at hcut59
                          have HR541 := Aside0.mk hr59
                          have HC541 := Aside0.mk (show y538.length ≤ c59 from by rw [hy59, hc59]; exact Nat.sub_le_sub_right (Nat.le_trans (by omega) hroom59) _)
                          clear hr59 hC59 hroom59 hi059 hsz59 hc59
                          have KY59 := Aside0.mk hy59
                          have KA59 := Aside0.mk hA59
                          clear hy59 hA59
                          have KL59 := Aside0.mk (show 18 ≤ t525.length from by omega)
                          have KM59 := Aside0.mk (show 14 ≤ 18 from by omega)
                          replace q59 := eq_true q59
                          have q60 : (18 : Int) ≤ ((t533.length : Int) : Int) := of_decide_eq_true (by first | (with_reducible assumption) | assumption)
                          obtain ⟨i060, hi060, _, hsz60, _⟩ := info_parts info5
                          have hroom60 : t533.length ≤ co57 := (Kd.R_reads' HO_12.out).2.1
                          have hC60 : Kd.C (Kd.int .u8) _ Ao57 t533.length t533 := (Kd.R_reads' HO_12.out).2.2
                          have ql60 : (14 : Int) ≤ (18 : Int) := (by omega)
                          have hcut60 := cut_mid (P := Try.prog) 22 5 .i64 .i64 Try.underlying22 hi060 1 hsz60 Ao57 t533.length co57 14 18 (by omega) ql60 q60 hroom60
                          have hr60 := Kd.C_mid (lo := (14 : Int).toNat) (hi := (18 : Int).toNat) (c := co57) hC60 (by omega) (by omega) hroom60
                          obtain ⟨A60, hA60⟩ : ∃ A1, A1 = (if co57 = (14 : Int).toNat then Ao57 else (Ao57 : Option Addr).map (·.add ((14 : Int).toNat * 1))) := ⟨_, rfl⟩
                          obtain ⟨c60, hc60⟩ : ∃ c1, c1 = co57 - (14 : Int).toNat := ⟨_, rfl⟩
                          have hy60 : y542.length = (18 : Int).toNat - (14 : Int).toNat := (by rw [Ny542.out, List.length_drop, List.length_take] <;> omega)
                          rw [show ((t533).take (18 : Int).toNat).drop (14 : Int).toNat = y542 from Ny542.out.symm] at hr60
                          replace hr60 : Kd.C (Kd.int .u8) _ A60 y542.length y542 := (by rw [hA60]; exact hr60)
                          rw [← hy60, ← hA60, ← hc60] at hcut60
                          have HR545 := Aside0.mk hr60
                          have HC545 := Aside0.mk (show y542.length ≤ c60 from by rw [hy60, hc60]; exact Nat.sub_le_sub_right (Nat.le_trans (by omega) hroom60) _)
                          clear hr60 hC60 hroom60 hi060 hsz60 hc60
                          have KY60 := Aside0.mk hy60
                          have KA60 := Aside0.mk hA60
                          clear hy60 hA60
                          have KL60 := Aside0.mk (show 18 ≤ t533.length from by omega)
                          have KM60 := Aside0.mk (show 14 ≤ 18 from by omega)
                          replace q60 := eq_true q60
                          skip
                          skip
                          skip
                          skip
                          refine start_ (n := 17) (S := fun w' => (convert 22 9 (.slice Ao56 t525.length co56)).run Try.prog w' = .ok (.string (strOfNums t525)) w' ∧ (convert 22 9 (.slice Ao57 t533.length co57)).run Try.prog w' = .ok (.string (strOfNums t533)) w' ∧ (convert 22 9 (.slice A59 y538.length c59)).run Try.prog w' = .ok (.string (strOfNums y538)) w' ∧ (convert 22 9 (.slice A60 y542.length c60)).run Try.prog w' = .ok (.string (strOfNums y542)) w') (ds := []) #[false, false, false, false, false, false, false, false, false, false, false, false, false, false, false, false, false] (by kernel_rfl) rfl rfl ⟨own_string (P := Try.prog) Try.underlying22 Try.underlying5 Try.underlying9 (Kd.own_of_R HO_8.out), own_string (P := Try.prog) Try.underlying22 Try.underlying5 Try.underlying9 (Kd.own_of_R HO_12.out), (Kd.C_string (P := Try.prog) (A := A59) (c := c59) Try.underlying22 Try.underlying5 Try.underlying9 (by first | exact HR541.out | exact Kd.C_drew HR541.out)), (Kd.C_string (P := Try.prog) (A := A60) (c := c60) Try.underlying22 Try.underlying5 Try.underlying9 (by first | exact HR545.out | exact Kd.C_drew HR545.out))⟩ (fun hHeld => ?_); refine with_tabW phaetonlaw24_ImageOne.tab11 phaetonlaw24_ImageOne.bits11 (fun HT_ HW_ => ?_)
                          generalize wc.drew = w58 at HO_8 HO_12 HO_514001 HO_515001 BK513 BK514 BK515 HB HR541 HR545 hHeld ⊢
                          refine pure_ (i := 0) (N := some 79) (v := ?_) (a' := ?_) #[true, false, false, false, false, false, false, false, false, false, false, false, false, false, false, false, false] rfl rfl (any_of HT_.out (by kernel_rfl)) (fun _ _ _ h => h) (Or.inl ⟨by rfl, ?_⟩) ?_ ?_
                          rotate_left
                          · intro w'
                            go_simp
                            with_reducible rfl
                          rotate_left
                          · simp only [Act.put, List.setIfInBounds_toArray, List.set_cons_zero, List.set_cons_succ, i64_w, i32_w]
                            rfl
                          refine take_ (i := 1) (N := some 80) (v := ?_) (a' := ?_) #[true, true, false, false, false, false, false, false, false, false, false, false, false, false, false, false, false] rfl rfl (take_ofW HT_.out HW_.out (by kernel_rfl)) (fun _ _ _ h => h) (Or.inl ⟨by rfl, ?_⟩) hHeld ?_ ?_
                          rotate_left
                          · rintro w' ⟨s0, s1, s2, s3⟩
                            go_simp
                            with_reducible rfl
                          rotate_left
                          · simp only [Act.put, List.setIfInBounds_toArray, List.set_cons_zero, List.set_cons_succ, i64_w, i32_w]
                            rfl
                          refine pure_ (i := 2) (N := some 81) (v := ?_) (a' := ?_) #[true, true, true, false, false, false, false, false, false, false, false, false, false, false, false, false, false] rfl rfl (any_of HT_.out (by kernel_rfl)) (fun _ _ _ h => h) (Or.inl ⟨by rfl, ?_⟩) ?_ ?_
                          rotate_left
                          · intro w'
                            go_simp
                            with_reducible rfl
                          rotate_left
                          · simp only [Act.put, List.setIfInBounds_toArray, List.set_cons_zero, List.set_cons_succ, i64_w, i32_w]
                            rfl
                          refine take_ (i := 3) (N := some 82) (v := ?_) (a' := ?_) #[true, true, true, true, false, false, false, false, false, false, false, false, false, false, false, false, false] rfl rfl (take_ofW HT_.out HW_.out (by kernel_rfl)) (fun _ _ _ h => h) (Or.inl ⟨by rfl, ?_⟩) hHeld ?_ ?_
                          rotate_left
                          · rintro w' ⟨s0, s1, s2, s3⟩
                            go_simp
                            with_reducible rfl
                          rotate_left
                          · simp only [Act.put, List.setIfInBounds_toArray, List.set_cons_zero, List.set_cons_succ, i64_w, i32_w]
                            rfl
                          refine pure_ (i := 4) (N := some 83) (v := ?_) (a' := ?_) #[true, true, true, true, true, false, false, false, false, false, false, false, false, false, false, false, false] rfl rfl (any_of HT_.out (by kernel_rfl)) (fun _ _ _ h => h) (Or.inl ⟨by rfl, ?_⟩) ?_ ?_
                          rotate_left
                          · intro w'
                            go_simp
                            with_reducible rfl
                          rotate_left
                          · simp only [Act.put, List.setIfInBounds_toArray, List.set_cons_zero, List.set_cons_succ, i64_w, i32_w]
                            rfl
                          refine pure_ (i := 5) (N := some 84) (v := ?_) (a' := ?_) #[true, true, true, true, true, true, false, false, false, false, false, false, false, false, false, false, false] rfl rfl (any_of HT_.out (by kernel_rfl)) (fun _ _ _ h => h) (Or.inl ⟨by rfl, ?_⟩) ?_ ?_
                          rotate_left
                          · intro w'
                            go_simp
                            with_reducible rfl
                          rotate_left
                          · simp only [Act.put, List.setIfInBounds_toArray, List.set_cons_zero, List.set_cons_succ, i64_w, i32_w]
                            rfl
                          refine pure_ (i := 6) (N := some 85) (v := ?_) (a' := ?_) #[true, true, true, true, true, true, true, false, false, false, false, false, false, false, false, false, false] rfl rfl (any_of HT_.out (by kernel_rfl)) (fun _ _ _ h => h) (Or.inl ⟨by rfl, ?_⟩) ?_ ?_
                          rotate_left
                          · intro w'
                            go_simp
                            with_reducible rfl
                          rotate_left
                          · simp only [Act.put, List.setIfInBounds_toArray, List.set_cons_zero, List.set_cons_succ, i64_w, i32_w]
                            rfl
                          refine take_ (i := 7) (N := some 86) (v := ?_) (a' := ?_) #[true, true, true, true, true, true, true, true, false, false, false, false, false, false, false, false, false] rfl rfl (take_ofW HT_.out HW_.out (by kernel_rfl)) (fun _ _ _ h => h) (Or.inl ⟨by rfl, ?_⟩) hHeld ?_ ?_
                          rotate_left
                          · rintro w' ⟨s0, s1, s2, s3⟩
                            go_simp
                            with_reducible rfl
                          rotate_left
                          · simp only [Act.put, List.setIfInBounds_toArray, List.set_cons_zero, List.set_cons_succ, i64_w, i32_w]
                            rfl
                          refine pure_ (i := 8) (N := some 87) (v := ?_) (a' := ?_) #[true, true, true, true, true, true, true, true, true, false, false, false, false, false, false, false, false] rfl rfl (any_of HT_.out (by kernel_rfl)) (fun _ _ _ h => h) (Or.inl ⟨by rfl, ?_⟩) ?_ ?_
                          rotate_left
                          · intro w'
                            go_simp
                            with_reducible rfl
                          rotate_left
                          · simp only [Act.put, List.setIfInBounds_toArray, List.set_cons_zero, List.set_cons_succ, i64_w, i32_w]
                            rfl
                          refine pure_ (i := 9) (N := some 88) (v := ?_) (a' := ?_) #[true, true, true, true, true, true, true, true, true, true, false, false, false, false, false, false, false] rfl rfl (any_of HT_.out (by kernel_rfl)) (fun _ _ _ h => h) (Or.inl ⟨by rfl, ?_⟩) ?_ ?_
                          rotate_left
                          · intro w'
                            go_simp
                            with_reducible rfl
                          rotate_left
                          · simp only [Act.put, List.setIfInBounds_toArray, List.set_cons_zero, List.set_cons_succ, i64_w, i32_w]
                            rfl
                          refine take_ (i := 10) (N := some 89) (v := ?_) (a' := ?_) #[true, true, true, true, true, true, true, true, true, true, true, false, false, false, false, false, false] rfl rfl (take_ofW HT_.out HW_.out (by kernel_rfl)) (fun _ _ _ h => h) (Or.inl ⟨by rfl, ?_⟩) hHeld ?_ ?_
                          rotate_left
                          · rintro w' ⟨s0, s1, s2, s3⟩
                            go_simp
                            with_reducible rfl
                          rotate_left
                          · simp only [Act.put, List.setIfInBounds_toArray, List.set_cons_zero, List.set_cons_succ, i64_w, i32_w]
                            rfl
                          refine pure_ (i := 11) (N := some 90) (v := ?_) (a' := ?_) #[true, true, true, true, true, true, true, true, true, true, true, true, false, false, false, false, false] rfl rfl (any_of HT_.out (by kernel_rfl)) (fun _ _ _ h => h) (Or.inl ⟨by rfl, ?_⟩) ?_ ?_
                          rotate_left
                          · intro w'
                            go_simp
                            with_reducible rfl
                          rotate_left
                          · simp only [Act.put, List.setIfInBounds_toArray, List.set_cons_zero, List.set_cons_succ, i64_w, i32_w]
                            rfl
                          refine pure_ (i := 12) (N := some 91) (v := ?_) (a' := ?_) #[true, true, true, true, true, true, true, true, true, true, true, true, true, false, false, false, false] rfl rfl (any_of HT_.out (by kernel_rfl)) (fun _ _ _ h => h) (Or.inl ⟨by rfl, ?_⟩) ?_ ?_
                          rotate_left
                          · intro w'
                            go_simp
                            with_reducible rfl
                          rotate_left
                          · simp only [Act.put, List.setIfInBounds_toArray, List.set_cons_zero, List.set_cons_succ, i64_w, i32_w]
                            rfl
                          refine pure_ (i := 13) (N := some 92) (v := ?_) (a' := ?_) #[true, true, true, true, true, true, true, true, true, true, true, true, true, true, false, false, false] rfl rfl (any_of HT_.out (by kernel_rfl)) (fun _ _ _ h => h) (Or.inl ⟨by rfl, ?_⟩) ?_ ?_
                          rotate_left
                          · intro w'
                            go_simp
                            with_reducible rfl
                          rotate_left
                          · simp only [Act.put, List.setIfInBounds_toArray, List.set_cons_zero, List.set_cons_succ, i64_w, i32_w]
                            rfl
                          refine pure_ (i := 14) (N := some 93) (v := ?_) (a' := ?_) #[true, true, true, true, true, true, true, true, true, true, true, true, true, true, true, false, false] rfl rfl (any_of HT_.out (by kernel_rfl)) (fun _ _ _ h => h) (Or.inl ⟨by rfl, ?_⟩) ?_ ?_
                          rotate_left
                          · intro w'
                            go_simp
                            with_reducible rfl
                          rotate_left
                          · simp only [Act.put, List.setIfInBounds_toArray, List.set_cons_zero, List.set_cons_succ, i64_w, i32_w]
                            rfl
                          refine pure_ (i := 15) (N := some 94) (v := ?_) (a' := ?_) #[true, true, true, true, true, true, true, true, true, true, true, true, true, true, true, true, false] rfl rfl (any_of HT_.out (by kernel_rfl)) (fun _ _ _ h => h) (Or.inl ⟨by rfl, ?_⟩) ?_ ?_
                          rotate_left
                          · intro w'
                            go_simp
                            with_reducible rfl
                          rotate_left
                          · simp only [Act.put, List.setIfInBounds_toArray, List.set_cons_zero, List.set_cons_succ, i64_w, i32_w]
                            rfl
                          refine pure_ (i := 16) (N := some 6) (v := ?_) (a' := ?_) #[true, true, true, true, true, true, true, true, true, true, true, true, true, true, true, true, true] rfl rfl (any_of HT_.out (by kernel_rfl)) (fun _ _ _ h => h) (Or.inl ⟨by rfl, ?_⟩) ?_ ?_
                          rotate_left
                          · intro w'
                            go_simp
                            with_reducible rfl
                          rotate_left
                          · simp only [Act.put, List.setIfInBounds_toArray, List.set_cons_zero, List.set_cons_succ, i64_w, i32_w]
                            rfl
                          refine done_ (done_of HT_.out (by kernel_rfl)) ?_
                          try go_wp2
                          go_ret
                          exact ⟨by first | rfl | (simp [errW_none, errW_some] <;> rfl) | (simp [*, errW_none, errW_some] <;> rfl), by repeat (first | (with_reducible first | exact HB.out | apply below_alloc | apply pw_below_drewN | apply below_drew1 | refine below_set ?_ GE513.out | refine below_set ?_ GE514.out | refine below_set ?_ GE515.out) | exact HB.out)⟩
                        · replace c55 := Bool.eq_false_iff.mpr c55
                          subst c55
                          have H1 : (none) = some r := by rw [if_neg (show ¬ (false = true) by decide)] at H; exact H
                          clear H
                          have H := H1
                          clear H1
                          exact absurd H (by simp)
                      · rw [if_neg c54] at H
                        have c54b0 : (((strOfNums t525).toList == (strOfNums t533).toList) == ((strOfNums y538).toList == (strOfNums y542).toList)) = false := by simpa using c54
                        (try (have c54b1 : decide (((strOfNums t525).toList == (strOfNums t533).toList) = ((strOfNums y538).toList == (strOfNums y542).toList)) = false := by simpa using c54))
                        (try (have c54b2 : (((strOfNums t525).toList == (strOfNums t533).toList) == ((strOfNums y538).toList == (strOfNums y542).toList)) = false := by simpa using c54))
                        (try (have c54b3 : ¬ (((strOfNums t525).toList == (strOfNums t533).toList) = ((strOfNums y538).toList == (strOfNums y542).toList)) := by simpa using c54))
                        clear c54
                        exact absurd H (by simp)
                    · rw [if_neg c53] at H
                      exact absurd H (by simp)
                  · rw [if_neg c51] at H
                    exact absurd H (by simp)
                · exact absurd (by decide) c50
          · replace c47 := Bool.eq_false_iff.mpr c47
            subst c47
            have H1 : (if t516 = true then (some true) else (none)) = some r := by rw [if_neg (show ¬ (false = true) by decide)] at H; exact H
            clear H
            have H := H1
            clear H1
            by_cases c66 : t516 = true
            · subst c66
              have H1 : (some true) = some r := by rw [if_pos rfl] at H; exact H
              clear H
              have H := H1
              clear H1
              obtain rfl := Option.some.inj H
              go_wp2
              go_ret
              exact ⟨by first | rfl | (simp [errW_none, errW_some] <;> rfl) | (simp [*, errW_none, errW_some] <;> rfl), by repeat (first | (with_reducible first | exact HB.out | apply below_alloc | apply pw_below_drewN | apply below_drew1 | refine below_set ?_ GE513.out | refine below_set ?_ GE514.out | refine below_set ?_ GE515.out) | exact HB.out)⟩
            · replace c66 := Bool.eq_false_iff.mpr c66
              subst c66
              have H1 : (none) = some r := by rw [if_neg (show ¬ (false = true) by decide)] at H; exact H
              clear H
              have H := H1
              clear H1
              exact absurd H (by simp)
        · replace c46 := Bool.eq_false_iff.mpr c46
          subst c46
          have H1 : (if t516 = true then (some true) else (none)) = some r := by rw [if_neg (show ¬ (false = true) by decide)] at H; exact H
          clear H
          have H := H1
          clear H1
          by_cases c67 : t516 = true
          · subst c67
            have H1 : (some true) = some r := by rw [if_pos rfl] at H; exact H
            clear H
            have H := H1
            clear H1
            obtain rfl := Option.some.inj H
            go_wp2
            go_ret
            exact ⟨by first | rfl | (simp [errW_none, errW_some] <;> rfl) | (simp [*, errW_none, errW_some] <;> rfl), by repeat (first | (with_reducible first | exact HB.out | apply below_alloc | apply pw_below_drewN | apply below_drew1 | refine below_set ?_ GE513.out | refine below_set ?_ GE514.out | refine below_set ?_ GE515.out) | exact HB.out)⟩
          · replace c67 := Bool.eq_false_iff.mpr c67
            subst c67
            have H1 : (none) = some r := by rw [if_neg (show ¬ (false = true) by decide)] at H; exact H
            clear H
            have H := H1
            clear H1
            exact absurd H (by simp)

/-- THE ONE PURE STATEMENT of phaetonlaw24_ImageOne. -/
def phaetonlaw24_ImageOne.Pure : Prop := ∀ (a0_0 : Int) (l0_1 : List Int) (a1_0 : Int) (l1_1 : List Int) (a2_0 : Int) (a2_1 : Int), (Lit.int .i64 a0_0).wf = true → l0_1.length ≤ maxLen → (∀ x ∈ l0_1, (fun (x : Int) => (Lit.int .u8 x).wf = true) x) → (Lit.int .i64 a1_0).wf = true → l1_1.length ≤ maxLen → (∀ x ∈ l1_1, (fun (x : Int) => (Lit.int .u8 x).wf = true) x) → (Lit.int .i64 a2_0).wf = true → (Lit.int .i64 a2_1).wf = true → ∃ k, phaetonlaw24_ImageOne.f k a0_0 l0_1 a1_0 l1_1 a2_0 a2_1 = some true
theorem phaetonlaw24_ImageOne.walk (P : phaetonlaw24_ImageOne.Pure) (a0_0 : Int) (A0_1 : Option Addr) (c0_1 : Nat) (l0_1 : List Int) (a1_0 : Int) (A1_1 : Option Addr) (c1_1 : Nat) (l1_1 : List Int) (a2_0 : Int) (a2_1 : Int) (w : World) (hw0_0 : (Lit.int .i64 a0_0).wf = true) (hw0_1 : ∀ x ∈ l0_1, (fun (x : Int) => (Lit.int .u8 x).wf = true) x) (hr0_1 : Kd.C (Kd.int .u8) w A0_1 l0_1.length l0_1) (hc0_1 : l0_1.length ≤ c0_1) (hw1_0 : (Lit.int .i64 a1_0).wf = true) (hw1_1 : ∀ x ∈ l1_1, (fun (x : Int) => (Lit.int .u8 x).wf = true) x) (hr1_1 : Kd.C (Kd.int .u8) w A1_1 l1_1.length l1_1) (hc1_1 : l1_1.length ≤ c1_1) (hw2_0 : (Lit.int .i64 a2_0).wf = true) (hw2_1 : (Lit.int .i64 a2_1).wf = true) :
    Calls Try.prog 10 #[.agg #[.int .i64 a0_0, .slice A0_1 l0_1.length c0_1], .agg #[.int .i64 a1_0, .slice A1_1 l1_1.length c1_1], .agg #[.int .i64 a2_0, .int .i64 a2_1]] w fun e w' => e = .returned (.bool true) ∧ Below w.heap.size w w' := by
  obtain ⟨k, h⟩ := P a0_0 l0_1 a1_0 l1_1 a2_0 a2_1 hw0_0 (by have := hr0_1.2.1; unfold maxLen; omega) hw0_1 hw1_0 (by have := hr1_1.2.1; unfold maxLen; omega) hw1_1 hw2_0 hw2_1
  refine (phaetonlaw24_ImageOne.calls k a0_0 _ _ l0_1 a1_0 _ _ l1_1 a2_0 a2_1 true w hr0_1 hc0_1 hr1_1 hc1_1 h).mono ?_
  rintro e w' ⟨rfl, hd⟩
  exact ⟨rfl, hd⟩

end Go.Proofs.Ytfgbcpdlhdgofaa.Px

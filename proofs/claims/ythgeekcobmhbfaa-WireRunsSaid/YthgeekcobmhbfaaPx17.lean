-- Written by myprint.py, a program of this session's, over the kit's print.py; not a text of print.sh's own.
import Derived.Test.YthgeekcobmhbfaaHandBox
import Derived.Test.YthgeekcobmhbfaaPx0
import Derived.Test.YthgeekcobmhbfaaPx2
import Derived.Test.YthgeekcobmhbfaaPx4
import Derived.Test.YthgeekcobmhbfaaPx5
import Derived.Test.YthgeekcobmhbfaaPx9
import Derived.Test.YthgeekcobmhbfaaPx10
namespace Go.Proofs.Ythgeekcobmhbfaa.Px
open Go.RowKit Go.Proofs.YthgeekcobmhbfaaW.PrintWords Go.Proofs.YthgeekcobmhbfaaW.PrintLast Go.Proofs.YthgeekcobmhbfaaW.PrintMore
attribute [local go_sem] max2_int min2_int max_two min_two max_three min_three max_four min_four   -- for this text's walks alone
set_option linter.unusedVariables false
set_option linter.unusedSimpArgs false

/-! ### phaetonlaw05_WireRuns: function 6 -/
mutual
def phaetonlaw05_WireRuns.j0 : Nat → Bool → Bool → Bool → Int → Bool → Int → List Int → Option (Bool)
  | 0, _, _, _, _, _, _, _ => none
  | k + 1, x3, x16, x619000, x619001, x619002, x619003, x619004 => if x16 = true then (if x3 = true then (some true) else (none)) else ((wire_Bits.f x619000 x619001 x619002 x619003 x619004).bind fun t622 => ((phaetonref04_Head.f k x619000 x619001 x619002 x619003 x619004).bind fun t625 => ((wire_Length.f x619000 x619001 x619002 x619003 x619004).bind fun t628 => (if (t622.length : Int) = t628 then (if (t622.length : Int) < (wrap64 ((t625.length : Int) + 25)) then (phaetonlaw05_WireRuns.j1 k x3 t622 true) else ((wire_Most.f x619000 (x619004.length : Int)).bind fun t629 => (if (t622.length : Int) > t629 then (phaetonlaw05_WireRuns.j1 k x3 t622 true) else ((phaetonref01_Right.f k t622).bind fun t630 => (phaetonlaw05_WireRuns.j1 k x3 t622 (!t630)))))) else (phaetonlaw05_WireRuns.j1 k x3 t622 true)))))
def phaetonlaw05_WireRuns.j1 : Nat → Bool → List Int → Bool → Option (Bool)
  | 0, _, _, _ => none
  | k + 1, x3, x4, x50 => if x50 = true then (none) else (phaetonlaw05_WireRuns.l0 k x3 x4 0 0)
def phaetonlaw05_WireRuns.l0 : Nat → Bool → List Int → Int → Int → Option (Bool)
  | 0, _, _, _, _ => none
  | k + 1, x3, x4, x6, x7 => if x7 < (wrap64 ((x4.length : Int) - 10)) then (if x7 > 0 then (if 0 ≤ x7 then (if x7 < (x4.length : Int) then (if 0 ≤ (wrap64 (x7 - 1)) then (if (wrap64 (x7 - 1)) < (x4.length : Int) then (phaetonlaw05_WireRuns.j3 k x3 x4 x6 x7 ((rd x4 x7) == (rd x4 (wrap64 (x7 - 1))))) else (none)) else (none)) else (none)) else (none)) else (phaetonlaw05_WireRuns.j3 k x3 x4 x6 x7 false)) else (phaetonlaw05_WireRuns.l1 k x3 x4 (wrap64 ((x4.length : Int) - 10)))
def phaetonlaw05_WireRuns.j3 : Nat → Bool → List Int → Int → Int → Bool → Option (Bool)
  | 0, _, _, _, _, _ => none
  | k + 1, x3, x4, x6, x7, x71 => if x71 = true then (if (wrap64 (x6 + 1)) > 5 then (none) else (phaetonlaw05_WireRuns.l0 k x3 x4 (wrap64 (x6 + 1)) (wrap64 (x7 + 1)))) else (if 1 > 5 then (none) else (phaetonlaw05_WireRuns.l0 k x3 x4 1 (wrap64 (x7 + 1))))
def phaetonlaw05_WireRuns.l1 : Nat → Bool → List Int → Int → Option (Bool)
  | 0, _, _, _ => none
  | k + 1, x3, x4, x8 => if x8 < (x4.length : Int) then (if 0 ≤ x8 then (if (rd x4 x8) = 1 then (phaetonlaw05_WireRuns.l1 k x3 x4 (wrap64 (x8 + 1))) else (none)) else (none)) else (if x3 = true then (some true) else (none))
end
def phaetonlaw05_WireRuns.f (k : Nat) (a0_0 : Bool) (a0_1 : Int) (a0_2 : Bool) (a0_3 : Int) (l0_4 : List Int) : Option (Bool) := (phaetonlaw05_head.f k).bind fun t619 => ((phaetonlaw04_Great.f a0_0 a0_1 a0_2 a0_3 l0_4).bind fun t620 => (if t620 = true then (phaetonlaw05_WireRuns.j0 k t619 true a0_0 a0_1 a0_2 a0_3 l0_4) else ((phaetonref04_Right.f k a0_0 a0_1 a0_2 a0_3 l0_4).bind fun t621 => (phaetonlaw05_WireRuns.j0 k t619 (!t621) a0_0 a0_1 a0_2 a0_3 l0_4))))
theorem phaetonlaw05_WireRuns.mono_l : ∀ k, (∀ y0 y1 y2 y3 y4 y5 y6, LeO (phaetonlaw05_WireRuns.j0 k y0 y1 y2 y3 y4 y5 y6) (phaetonlaw05_WireRuns.j0 (k + 1) y0 y1 y2 y3 y4 y5 y6)) ∧ (∀ y0 y1 y2, LeO (phaetonlaw05_WireRuns.j1 k y0 y1 y2) (phaetonlaw05_WireRuns.j1 (k + 1) y0 y1 y2)) ∧ (∀ y0 y1 y2 y3, LeO (phaetonlaw05_WireRuns.l0 k y0 y1 y2 y3) (phaetonlaw05_WireRuns.l0 (k + 1) y0 y1 y2 y3)) ∧ (∀ y0 y1 y2 y3 y4, LeO (phaetonlaw05_WireRuns.j3 k y0 y1 y2 y3 y4) (phaetonlaw05_WireRuns.j3 (k + 1) y0 y1 y2 y3 y4)) ∧ (∀ y0 y1 y2, LeO (phaetonlaw05_WireRuns.l1 k y0 y1 y2) (phaetonlaw05_WireRuns.l1 (k + 1) y0 y1 y2))
  | 0 => ⟨fun _ _ _ _ _ _ _ r h => by simp [phaetonlaw05_WireRuns.j0] at h, fun _ _ _ r h => by simp [phaetonlaw05_WireRuns.j1] at h, fun _ _ _ _ r h => by simp [phaetonlaw05_WireRuns.l0] at h, fun _ _ _ _ _ r h => by simp [phaetonlaw05_WireRuns.j3] at h, fun _ _ _ r h => by simp [phaetonlaw05_WireRuns.l1] at h⟩
  | k + 1 => by
    obtain ⟨ih0, ih1, ih2, ih3, ih4⟩ := phaetonlaw05_WireRuns.mono_l k
    refine ⟨?_, ?_, ?_, ?_, ?_⟩
    · intro y0 y1 y2 y3 y4 y5 y6
      unfold phaetonlaw05_WireRuns.j0
      repeat' first
      | (with_reducible exact ih0 _ _ _ _ _ _ _)
      | (with_reducible exact ih1 _ _ _)
      | (with_reducible exact ih2 _ _ _ _)
      | (with_reducible exact ih3 _ _ _ _ _)
      | (with_reducible exact ih4 _ _ _)
      | (with_reducible exact phaetonlaw05_head.mono _)
      | (with_reducible exact phaetonref01_Right.mono _ _)
      | (with_reducible exact phaetonref04_Head.mono _ _ _ _ _ _)
      | (with_reducible exact phaetonref04_Right.mono _ _ _ _ _ _)
      | (with_reducible exact LeO.refl _)
      | (with_reducible exact LeO.none _)
      | (with_reducible refine LeO.ite ?_ ?_)
      | (with_reducible refine LeO.bind ?_ (fun _ => ?_))
      | exact ih0 _ _ _ _ _ _ _
      | exact ih1 _ _ _
      | exact ih2 _ _ _ _
      | exact ih3 _ _ _ _ _
      | exact ih4 _ _ _
      | exact phaetonlaw05_head.mono _
      | exact phaetonref01_Right.mono _ _
      | exact phaetonref04_Head.mono _ _ _ _ _ _
      | exact phaetonref04_Right.mono _ _ _ _ _ _
      | exact LeO.none _
      | refine LeO.ite ?_ ?_
      | refine LeO.bind ?_ (fun _ => ?_)
    · intro y0 y1 y2
      unfold phaetonlaw05_WireRuns.j1
      repeat' first
      | (with_reducible exact ih0 _ _ _ _ _ _ _)
      | (with_reducible exact ih1 _ _ _)
      | (with_reducible exact ih2 _ _ _ _)
      | (with_reducible exact ih3 _ _ _ _ _)
      | (with_reducible exact ih4 _ _ _)
      | (with_reducible exact phaetonlaw05_head.mono _)
      | (with_reducible exact phaetonref01_Right.mono _ _)
      | (with_reducible exact phaetonref04_Head.mono _ _ _ _ _ _)
      | (with_reducible exact phaetonref04_Right.mono _ _ _ _ _ _)
      | (with_reducible exact LeO.refl _)
      | (with_reducible exact LeO.none _)
      | (with_reducible refine LeO.ite ?_ ?_)
      | (with_reducible refine LeO.bind ?_ (fun _ => ?_))
      | exact ih0 _ _ _ _ _ _ _
      | exact ih1 _ _ _
      | exact ih2 _ _ _ _
      | exact ih3 _ _ _ _ _
      | exact ih4 _ _ _
      | exact phaetonlaw05_head.mono _
      | exact phaetonref01_Right.mono _ _
      | exact phaetonref04_Head.mono _ _ _ _ _ _
      | exact phaetonref04_Right.mono _ _ _ _ _ _
      | exact LeO.none _
      | refine LeO.ite ?_ ?_
      | refine LeO.bind ?_ (fun _ => ?_)
    · intro y0 y1 y2 y3
      unfold phaetonlaw05_WireRuns.l0
      repeat' first
      | (with_reducible exact ih0 _ _ _ _ _ _ _)
      | (with_reducible exact ih1 _ _ _)
      | (with_reducible exact ih2 _ _ _ _)
      | (with_reducible exact ih3 _ _ _ _ _)
      | (with_reducible exact ih4 _ _ _)
      | (with_reducible exact phaetonlaw05_head.mono _)
      | (with_reducible exact phaetonref01_Right.mono _ _)
      | (with_reducible exact phaetonref04_Head.mono _ _ _ _ _ _)
      | (with_reducible exact phaetonref04_Right.mono _ _ _ _ _ _)
      | (with_reducible exact LeO.refl _)
      | (with_reducible exact LeO.none _)
      | (with_reducible refine LeO.ite ?_ ?_)
      | (with_reducible refine LeO.bind ?_ (fun _ => ?_))
      | exact ih0 _ _ _ _ _ _ _
      | exact ih1 _ _ _
      | exact ih2 _ _ _ _
      | exact ih3 _ _ _ _ _
      | exact ih4 _ _ _
      | exact phaetonlaw05_head.mono _
      | exact phaetonref01_Right.mono _ _
      | exact phaetonref04_Head.mono _ _ _ _ _ _
      | exact phaetonref04_Right.mono _ _ _ _ _ _
      | exact LeO.none _
      | refine LeO.ite ?_ ?_
      | refine LeO.bind ?_ (fun _ => ?_)
    · intro y0 y1 y2 y3 y4
      unfold phaetonlaw05_WireRuns.j3
      repeat' first
      | (with_reducible exact ih0 _ _ _ _ _ _ _)
      | (with_reducible exact ih1 _ _ _)
      | (with_reducible exact ih2 _ _ _ _)
      | (with_reducible exact ih3 _ _ _ _ _)
      | (with_reducible exact ih4 _ _ _)
      | (with_reducible exact phaetonlaw05_head.mono _)
      | (with_reducible exact phaetonref01_Right.mono _ _)
      | (with_reducible exact phaetonref04_Head.mono _ _ _ _ _ _)
      | (with_reducible exact phaetonref04_Right.mono _ _ _ _ _ _)
      | (with_reducible exact LeO.refl _)
      | (with_reducible exact LeO.none _)
      | (with_reducible refine LeO.ite ?_ ?_)
      | (with_reducible refine LeO.bind ?_ (fun _ => ?_))
      | exact ih0 _ _ _ _ _ _ _
      | exact ih1 _ _ _
      | exact ih2 _ _ _ _
      | exact ih3 _ _ _ _ _
      | exact ih4 _ _ _
      | exact phaetonlaw05_head.mono _
      | exact phaetonref01_Right.mono _ _
      | exact phaetonref04_Head.mono _ _ _ _ _ _
      | exact phaetonref04_Right.mono _ _ _ _ _ _
      | exact LeO.none _
      | refine LeO.ite ?_ ?_
      | refine LeO.bind ?_ (fun _ => ?_)
    · intro y0 y1 y2
      unfold phaetonlaw05_WireRuns.l1
      repeat' first
      | (with_reducible exact ih0 _ _ _ _ _ _ _)
      | (with_reducible exact ih1 _ _ _)
      | (with_reducible exact ih2 _ _ _ _)
      | (with_reducible exact ih3 _ _ _ _ _)
      | (with_reducible exact ih4 _ _ _)
      | (with_reducible exact phaetonlaw05_head.mono _)
      | (with_reducible exact phaetonref01_Right.mono _ _)
      | (with_reducible exact phaetonref04_Head.mono _ _ _ _ _ _)
      | (with_reducible exact phaetonref04_Right.mono _ _ _ _ _ _)
      | (with_reducible exact LeO.refl _)
      | (with_reducible exact LeO.none _)
      | (with_reducible refine LeO.ite ?_ ?_)
      | (with_reducible refine LeO.bind ?_ (fun _ => ?_))
      | exact ih0 _ _ _ _ _ _ _
      | exact ih1 _ _ _
      | exact ih2 _ _ _ _
      | exact ih3 _ _ _ _ _
      | exact ih4 _ _ _
      | exact phaetonlaw05_head.mono _
      | exact phaetonref01_Right.mono _ _
      | exact phaetonref04_Head.mono _ _ _ _ _ _
      | exact phaetonref04_Right.mono _ _ _ _ _ _
      | exact LeO.none _
      | refine LeO.ite ?_ ?_
      | refine LeO.bind ?_ (fun _ => ?_)
theorem phaetonlaw05_WireRuns.mono : ∀ a0 a1 a2 a3 a4 k, LeO (phaetonlaw05_WireRuns.f k a0 a1 a2 a3 a4) (phaetonlaw05_WireRuns.f (k + 1) a0 a1 a2 a3 a4) := by
  intro a0 a1 a2 a3 a4 k
  obtain ⟨ih0, ih1, ih2, ih3, ih4⟩ := phaetonlaw05_WireRuns.mono_l k
  unfold phaetonlaw05_WireRuns.f
  repeat' first
      | (with_reducible exact ih0 _ _ _ _ _ _ _)
      | (with_reducible exact ih1 _ _ _)
      | (with_reducible exact ih2 _ _ _ _)
      | (with_reducible exact ih3 _ _ _ _ _)
      | (with_reducible exact ih4 _ _ _)
      | (with_reducible exact phaetonlaw05_head.mono _)
      | (with_reducible exact phaetonref01_Right.mono _ _)
      | (with_reducible exact phaetonref04_Head.mono _ _ _ _ _ _)
      | (with_reducible exact phaetonref04_Right.mono _ _ _ _ _ _)
      | (with_reducible exact LeO.refl _)
      | (with_reducible exact LeO.none _)
      | (with_reducible refine LeO.ite ?_ ?_)
      | (with_reducible refine LeO.bind ?_ (fun _ => ?_))
      | exact ih0 _ _ _ _ _ _ _
      | exact ih1 _ _ _
      | exact ih2 _ _ _ _
      | exact ih3 _ _ _ _ _
      | exact ih4 _ _ _
      | exact phaetonlaw05_head.mono _
      | exact phaetonref01_Right.mono _ _
      | exact phaetonref04_Head.mono _ _ _ _ _ _
      | exact phaetonref04_Right.mono _ _ _ _ _ _
      | exact LeO.none _
      | refine LeO.ite ?_ ?_
      | refine LeO.bind ?_ (fun _ => ?_)
set_option maxHeartbeats 8000000 in
set_option maxRecDepth 100000 in
theorem phaetonlaw05_WireRuns.calls (k : Nat) (a0_0 : Bool) (a0_1 : Int) (a0_2 : Bool) (a0_3 : Int) (A0_4 : Option Addr) (c0_4 : Nat) (l0_4 : List Int) (r : Bool) (w : World) (hr0_4 : Kd.C (Kd.int .u8) w A0_4 l0_4.length l0_4) (hc0_4 : l0_4.length ≤ c0_4) (h : phaetonlaw05_WireRuns.f k a0_0 a0_1 a0_2 a0_3 l0_4 = some r) :
    Calls Try.prog 6 #[.agg #[.bool a0_0, .int .i64 a0_1, .bool a0_2, .int .i64 a0_3, .slice A0_4 l0_4.length c0_4]] w fun e w' => e = .returned (.bool r) ∧ Below w.heap.size w w' := by
  have hu24 := Try.underlying24
  have HR0_4 := Aside0.mk hr0_4
  have HC0_4 := Aside0.mk hc0_4
  clear hr0_4 hc0_4
  have HB := Aside0.mk (Below.refl w.heap.size w)
  have H : ((phaetonlaw05_head.f k).bind fun t619 => ((phaetonlaw04_Great.f a0_0 a0_1 a0_2 a0_3 l0_4).bind fun t620 => (if t620 = true then (phaetonlaw05_WireRuns.j0 k t619 true a0_0 a0_1 a0_2 a0_3 l0_4) else ((phaetonref04_Right.f k a0_0 a0_1 a0_2 a0_3 l0_4).bind fun t621 => (phaetonlaw05_WireRuns.j0 k t619 (!t621) a0_0 a0_1 a0_2 a0_3 l0_4))))) = some r := h
  clear h
  replace H := Option.bind_eq_some_iff.mp H
  obtain ⟨t619, A20, H⟩ := H
  replace H : ((phaetonlaw04_Great.f a0_0 a0_1 a0_2 a0_3 l0_4).bind fun t620 => (if t620 = true then (phaetonlaw05_WireRuns.j0 k t619 true a0_0 a0_1 a0_2 a0_3 l0_4) else ((phaetonref04_Right.f k a0_0 a0_1 a0_2 a0_3 l0_4).bind fun t621 => (phaetonlaw05_WireRuns.j0 k t619 (!t621) a0_0 a0_1 a0_2 a0_3 l0_4)))) = some r := H
  have A2 := Aside0.mk A20
  clear A20
  have HC3 := Aside0.mk H
  clear H
  go_enter Try.func6, Try.ntmps6
  (try simp only [List.append])
  go_upto_region 2 with (first | ((with_reducible refine gate_dst (N := 1) rfl ?_); (try (refine gate_guard (by rfl) ?_; dsimp only)); refine box_event ?hg (N := 1) ?hd (cs := #[.bool a0_0, .int .i64 a0_1, .bool a0_2, .int .i64 a0_3, .slice A0_4 l0_4.length c0_4]) (t := 24) ?hr ?_; (case hd => rfl); (case hg => rfl); (case hr => first | (go_simp; done) | (go_simp; rfl)); intro gb618 hg w4 hbox hb; have n0_ := Aside0.mk (below_step (by repeat (first | (with_reducible first | exact HB.out | apply below_alloc | apply pw_below_drewN | apply below_drew1) | exact HB.out)) hb); have n1_ := Aside0.mk (hbox); have n2_ := Aside0.mk ((by rw [hg]; exact (below_size (by repeat (first | (with_reducible first | exact HB.out | apply below_alloc | apply pw_below_drewN | apply below_drew1) | exact HB.out))) : w.heap.size ≤ gb618)); have n3_ := Aside0.mk ((by rw [hg]; exact (below_size (by repeat (first | (with_reducible first | exact HB.out | apply below_alloc | apply pw_below_drewN | apply below_drew1) | exact HB.out))) : w.heap.size ≤ gb618)); clear HB; have HB := n0_; have BK618 := n1_; have GW618 := n2_; have GE618 := n3_; clear n0_ n1_ n2_ n3_; clear hb hbox hg) | (go_at_call 10; (with_reducible refine (phaetonlaw05_head.calls k  t619 _ A2.out).mono ?_); rintro e w5 ⟨rfl, hb⟩; have n0_ := Aside0.mk (blk_below (g := gb618) (o := .cells #[.bool a0_0, .int .i64 a0_1, .bool a0_2, .int .i64 a0_3, .slice A0_4 l0_4.length c0_4] 24 (0, 0)) (by (with_reducible repeat (first | refine blk_drewN ?_ _ | refine blk_drew ?_ | refine blk_alloc ?_ _)); exact BK618.out) hb); have n1_ := Aside0.mk (below_step (by repeat (first | (with_reducible first | exact HB.out | apply below_alloc | apply pw_below_drewN | apply below_drew1 | refine below_set ?_ GE618.out) | exact HB.out)) hb); clear BK618; clear HB; have BK618 := n0_; have HB := n1_; clear n0_ n1_; (try clear hb); (try clear hb2); (try clear hk); (try clear hi)))
  repeat (go_quiet (first | ((with_reducible refine gate_dst (N := 1) rfl ?_); (try (refine gate_guard (by rfl) ?_; dsimp only)); refine box_event ?hg (N := 1) ?hd (cs := #[.bool a0_0, .int .i64 a0_1, .bool a0_2, .int .i64 a0_3, .slice A0_4 l0_4.length c0_4]) (t := 24) ?hr ?_; (case hd => rfl); (case hg => rfl); (case hr => first | (go_simp; done) | (go_simp; rfl)); intro gb618 hg w4 hbox hb; have n0_ := Aside0.mk (below_step (by repeat (first | (with_reducible first | exact HB.out | apply below_alloc | apply pw_below_drewN | apply below_drew1) | exact HB.out)) hb); have n1_ := Aside0.mk (hbox); have n2_ := Aside0.mk ((by rw [hg]; exact (below_size (by repeat (first | (with_reducible first | exact HB.out | apply below_alloc | apply pw_below_drewN | apply below_drew1) | exact HB.out))) : w.heap.size ≤ gb618)); have n3_ := Aside0.mk ((by rw [hg]; exact (below_size (by repeat (first | (with_reducible first | exact HB.out | apply below_alloc | apply pw_below_drewN | apply below_drew1) | exact HB.out))) : w.heap.size ≤ gb618)); clear HB; have HB := n0_; have BK618 := n1_; have GW618 := n2_; have GE618 := n3_; clear n0_ n1_ n2_ n3_; clear hb hbox hg) | (go_at_call 10; (with_reducible refine (phaetonlaw05_head.calls k  t619 _ A2.out).mono ?_); rintro e w5 ⟨rfl, hb⟩; have n0_ := Aside0.mk (blk_below (g := gb618) (o := .cells #[.bool a0_0, .int .i64 a0_1, .bool a0_2, .int .i64 a0_3, .slice A0_4 l0_4.length c0_4] 24 (0, 0)) (by (with_reducible repeat (first | refine blk_drewN ?_ _ | refine blk_drew ?_ | refine blk_alloc ?_ _)); exact BK618.out) hb); have n1_ := Aside0.mk (below_step (by repeat (first | (with_reducible first | exact HB.out | apply below_alloc | apply pw_below_drewN | apply below_drew1 | refine below_set ?_ GE618.out) | exact HB.out)) hb); clear BK618; clear HB; have BK618 := n0_; have HB := n1_; clear n0_ n1_; (try clear hb); (try clear hb2); (try clear hk); (try clear hi))); go_upto_region 2 with (first | ((with_reducible refine gate_dst (N := 1) rfl ?_); (try (refine gate_guard (by rfl) ?_; dsimp only)); refine box_event ?hg (N := 1) ?hd (cs := #[.bool a0_0, .int .i64 a0_1, .bool a0_2, .int .i64 a0_3, .slice A0_4 l0_4.length c0_4]) (t := 24) ?hr ?_; (case hd => rfl); (case hg => rfl); (case hr => first | (go_simp; done) | (go_simp; rfl)); intro gb618 hg w4 hbox hb; have n0_ := Aside0.mk (below_step (by repeat (first | (with_reducible first | exact HB.out | apply below_alloc | apply pw_below_drewN | apply below_drew1) | exact HB.out)) hb); have n1_ := Aside0.mk (hbox); have n2_ := Aside0.mk ((by rw [hg]; exact (below_size (by repeat (first | (with_reducible first | exact HB.out | apply below_alloc | apply pw_below_drewN | apply below_drew1) | exact HB.out))) : w.heap.size ≤ gb618)); have n3_ := Aside0.mk ((by rw [hg]; exact (below_size (by repeat (first | (with_reducible first | exact HB.out | apply below_alloc | apply pw_below_drewN | apply below_drew1) | exact HB.out))) : w.heap.size ≤ gb618)); clear HB; have HB := n0_; have BK618 := n1_; have GW618 := n2_; have GE618 := n3_; clear n0_ n1_ n2_ n3_; clear hb hbox hg) | (go_at_call 10; (with_reducible refine (phaetonlaw05_head.calls k  t619 _ A2.out).mono ?_); rintro e w5 ⟨rfl, hb⟩; have n0_ := Aside0.mk (blk_below (g := gb618) (o := .cells #[.bool a0_0, .int .i64 a0_1, .bool a0_2, .int .i64 a0_3, .slice A0_4 l0_4.length c0_4] 24 (0, 0)) (by (with_reducible repeat (first | refine blk_drewN ?_ _ | refine blk_drew ?_ | refine blk_alloc ?_ _)); exact BK618.out) hb); have n1_ := Aside0.mk (below_step (by repeat (first | (with_reducible first | exact HB.out | apply below_alloc | apply pw_below_drewN | apply below_drew1 | refine below_set ?_ GE618.out) | exact HB.out)) hb); clear BK618; clear HB; have BK618 := n0_; have HB := n1_; clear n0_ n1_; (try clear hb); (try clear hb2); (try clear hk); (try clear hi))))
  (try simp only [Act.put, List.setIfInBounds_toArray, List.set_cons_zero, List.set_cons_succ])
  go_cut [16] (fun v16 wc => ∃ (kq : Nat) (x16_2 : Bool), v16 = .bool x16_2 ∧ Aside0 (phaetonlaw05_WireRuns.j0 kq t619 x16_2 a0_0 a0_1 a0_2 a0_3 l0_4 = some r) ∧ Aside0 (kq ≤ k) ∧ Aside0 (wc.heap[gb618]? = some (.cells #[.bool a0_0, .int .i64 a0_1, .bool a0_2, .int .i64 a0_3, (.slice A0_4 l0_4.length c0_4)] 24 (0, 0))) ∧ Aside0 (Below w.heap.size w wc))
  case first =>
    have H := HC3.out
    clear HC3
    replace H := Option.bind_eq_some_iff.mp H
    obtain ⟨t620, A60, H⟩ := H
    replace H : (if t620 = true then (phaetonlaw05_WireRuns.j0 k t619 true a0_0 a0_1 a0_2 a0_3 l0_4) else ((phaetonref04_Right.f k a0_0 a0_1 a0_2 a0_3 l0_4).bind fun t621 => (phaetonlaw05_WireRuns.j0 k t619 (!t621) a0_0 a0_1 a0_2 a0_3 l0_4))) = some r := H
    have A6 := Aside0.mk A60
    clear A60
    by_cases c7 : t620 = true
    · subst c7
      have H1 : (phaetonlaw05_WireRuns.j0 k t619 true a0_0 a0_1 a0_2 a0_3 l0_4) = some r := by rw [if_pos rfl] at H; exact H
      clear H
      have H := H1
      clear H1
      have H' := Aside0.mk H
      clear H
      have hcz8_0 : w5.cell? ⟨gb618, 0, none⟩ = some (.bool a0_0) := (blk_cell BK618.out 0).trans rfl
      have hcz8_1 : w5.cell? ⟨gb618, 1, none⟩ = some (.int .i64 a0_1) := (blk_cell BK618.out 1).trans rfl
      have hcz8_2 : w5.cell? ⟨gb618, 2, none⟩ = some (.bool a0_2) := (blk_cell BK618.out 2).trans rfl
      have hcz8_3 : w5.cell? ⟨gb618, 3, none⟩ = some (.int .i64 a0_3) := (blk_cell BK618.out 3).trans rfl
      have hcz8_4 : w5.cell? ⟨gb618, 4, none⟩ = some (.slice A0_4 l0_4.length c0_4) := (blk_cell BK618.out 4).trans rfl
      have hfz8_0 := blk_frozen BK618.out 0
      have hfz8_1 := blk_frozen BK618.out 1
      have hfz8_2 := blk_frozen BK618.out 2
      have hfz8_3 := blk_frozen BK618.out 3
      have hfz8_4 := blk_frozen BK618.out 4
      go_wp2_with (first | ((with_reducible refine gate_store (t := 24) (p := 1) rfl ?_); refine HW.store_box2 rfl rfl 24 _ _ rfl rfl rfl BK618.out rfl (by kernel_rfl) (by intro q hq; simp only [List.mem_cons, List.not_mem_nil, or_false] at hq; rcases hq with rfl | rfl | rfl | rfl | rfl <;> rfl) ?_; intro w1_ hw1_ hk1_; simp only [List.toList_toArray, World.setCells, Nat.zero_add, Nat.reduceAdd] at hw1_; subst hw1_; have hcb618_0 := (blk_cell hk1_ 0).trans rfl; have hfb618_0 := blk_frozen hk1_ 0; have hcb618_1 := (blk_cell hk1_ 1).trans rfl; have hfb618_1 := blk_frozen hk1_ 1; have hcb618_2 := (blk_cell hk1_ 2).trans rfl; have hfb618_2 := blk_frozen hk1_ 2; have hcb618_3 := (blk_cell hk1_ 3).trans rfl; have hfb618_3 := blk_frozen hk1_ 3; have hcb618_4 := (blk_cell hk1_ 4).trans rfl; have hfb618_4 := blk_frozen hk1_ 4; clear hk1_) | (go_at_call 11; (with_reducible refine (phaetonlaw04_Great.calls a0_0 a0_1 a0_2 a0_3 _ _ l0_4 true _ ?side1 ?side2 A6.out).mono ?_); (case side1 => repeat (first | exact (Kd.C_below HR0_4.out HB.out) | (with_reducible refine Kd.C_alloc ?_ _) | (with_reducible refine Kd.C_drewN ?_ _) | (with_reducible refine Kd.C_drew ?_))); (case side2 => exact HC0_4.out); rintro e w9 ⟨rfl, hb⟩; have n0_ := Aside0.mk (blk_below (g := gb618) (o := .cells #[.bool a0_0, .int .i64 a0_1, .bool a0_2, .int .i64 a0_3, .slice A0_4 l0_4.length c0_4] 24 (0, 0)) (by (with_reducible repeat (first | refine blk_drewN ?_ _ | refine blk_drew ?_ | refine blk_alloc ?_ _)); exact BK618.out) hb); have n1_ := Aside0.mk (below_step (by repeat (first | (with_reducible first | exact HB.out | apply below_alloc | apply pw_below_drewN | apply below_drew1 | refine below_set ?_ GE618.out) | exact HB.out)) hb); clear BK618; clear HB; have BK618 := n0_; have HB := n1_; clear n0_ n1_; (try clear hb); (try clear hb2); (try clear hk); (try clear hi)))
      repeat (go_quiet (first | (go_at_call 11; (with_reducible refine (phaetonlaw04_Great.calls a0_0 a0_1 a0_2 a0_3 _ _ l0_4 true _ ?side1 ?side2 A6.out).mono ?_); (case side1 => repeat (first | exact (Kd.C_below HR0_4.out HB.out) | (with_reducible refine Kd.C_alloc ?_ _) | (with_reducible refine Kd.C_drewN ?_ _) | (with_reducible refine Kd.C_drew ?_))); (case side2 => exact HC0_4.out); rintro e w9 ⟨rfl, hb⟩; have n0_ := Aside0.mk (blk_below (g := gb618) (o := .cells #[.bool a0_0, .int .i64 a0_1, .bool a0_2, .int .i64 a0_3, .slice A0_4 l0_4.length c0_4] 24 (0, 0)) (by (with_reducible repeat (first | refine blk_drewN ?_ _ | refine blk_drew ?_ | refine blk_alloc ?_ _)); exact BK618.out) hb); have n1_ := Aside0.mk (below_step (by repeat (first | (with_reducible first | exact HB.out | apply below_alloc | apply pw_below_drewN | apply below_drew1 | refine below_set ?_ GE618.out) | exact HB.out)) hb); clear BK618; clear HB; have BK618 := n0_; have HB := n1_; clear n0_ n1_; (try clear hb); (try clear hb2); (try clear hk); (try clear hi))); try go_wp2_with (first | (go_at_call 11; (with_reducible refine (phaetonlaw04_Great.calls a0_0 a0_1 a0_2 a0_3 _ _ l0_4 true _ ?side1 ?side2 A6.out).mono ?_); (case side1 => repeat (first | exact (Kd.C_below HR0_4.out HB.out) | (with_reducible refine Kd.C_alloc ?_ _) | (with_reducible refine Kd.C_drewN ?_ _) | (with_reducible refine Kd.C_drew ?_))); (case side2 => exact HC0_4.out); rintro e w9 ⟨rfl, hb⟩; have n0_ := Aside0.mk (blk_below (g := gb618) (o := .cells #[.bool a0_0, .int .i64 a0_1, .bool a0_2, .int .i64 a0_3, .slice A0_4 l0_4.length c0_4] 24 (0, 0)) (by (with_reducible repeat (first | refine blk_drewN ?_ _ | refine blk_drew ?_ | refine blk_alloc ?_ _)); exact BK618.out) hb); have n1_ := Aside0.mk (below_step (by repeat (first | (with_reducible first | exact HB.out | apply below_alloc | apply pw_below_drewN | apply below_drew1 | refine below_set ?_ GE618.out) | exact HB.out)) hb); clear BK618; clear HB; have BK618 := n0_; have HB := n1_; clear n0_ n1_; (try clear hb); (try clear hb2); (try clear hk); (try clear hi))))
      go_meet
      case rel => exact ⟨_, (true), (by first | rfl | (simp; done) | (simp [*]; done)), H', ⟨by first | omega | exact Nat.le_refl _⟩, ⟨by (with_reducible repeat (first | refine blk_drewN ?_ _ | refine blk_drew ?_ | refine blk_alloc ?_ _)); exact BK618.out⟩, ⟨by repeat (first | (with_reducible first | exact HB.out | apply below_alloc | apply pw_below_drewN | apply below_drew1 | refine below_set ?_ GE618.out) | exact HB.out)⟩⟩
    · replace c7 := Bool.eq_false_iff.mpr c7
      subst c7
      have H1 : ((phaetonref04_Right.f k a0_0 a0_1 a0_2 a0_3 l0_4).bind fun t621 => (phaetonlaw05_WireRuns.j0 k t619 (!t621) a0_0 a0_1 a0_2 a0_3 l0_4)) = some r := by rw [if_neg (show ¬ (false = true) by decide)] at H; exact H
      clear H
      have H := H1
      clear H1
      replace H := Option.bind_eq_some_iff.mp H
      obtain ⟨t621, A100, H⟩ := H
      replace H : (phaetonlaw05_WireRuns.j0 k t619 (!t621) a0_0 a0_1 a0_2 a0_3 l0_4) = some r := H
      have A10 := Aside0.mk A100
      clear A100
      have H' := Aside0.mk H
      clear H
      have hcz11_0 : w5.cell? ⟨gb618, 0, none⟩ = some (.bool a0_0) := (blk_cell BK618.out 0).trans rfl
      have hcz11_1 : w5.cell? ⟨gb618, 1, none⟩ = some (.int .i64 a0_1) := (blk_cell BK618.out 1).trans rfl
      have hcz11_2 : w5.cell? ⟨gb618, 2, none⟩ = some (.bool a0_2) := (blk_cell BK618.out 2).trans rfl
      have hcz11_3 : w5.cell? ⟨gb618, 3, none⟩ = some (.int .i64 a0_3) := (blk_cell BK618.out 3).trans rfl
      have hcz11_4 : w5.cell? ⟨gb618, 4, none⟩ = some (.slice A0_4 l0_4.length c0_4) := (blk_cell BK618.out 4).trans rfl
      have hfz11_0 := blk_frozen BK618.out 0
      have hfz11_1 := blk_frozen BK618.out 1
      have hfz11_2 := blk_frozen BK618.out 2
      have hfz11_3 := blk_frozen BK618.out 3
      have hfz11_4 := blk_frozen BK618.out 4
      go_wp2_with (first | ((with_reducible refine gate_store (t := 24) (p := 1) rfl ?_); refine HW.store_box2 rfl rfl 24 _ _ rfl rfl rfl BK618.out rfl (by kernel_rfl) (by intro q hq; simp only [List.mem_cons, List.not_mem_nil, or_false] at hq; rcases hq with rfl | rfl | rfl | rfl | rfl <;> rfl) ?_; intro w1_ hw1_ hk1_; simp only [List.toList_toArray, World.setCells, Nat.zero_add, Nat.reduceAdd] at hw1_; subst hw1_; have hcb618_0 := (blk_cell hk1_ 0).trans rfl; have hfb618_0 := blk_frozen hk1_ 0; have hcb618_1 := (blk_cell hk1_ 1).trans rfl; have hfb618_1 := blk_frozen hk1_ 1; have hcb618_2 := (blk_cell hk1_ 2).trans rfl; have hfb618_2 := blk_frozen hk1_ 2; have hcb618_3 := (blk_cell hk1_ 3).trans rfl; have hfb618_3 := blk_frozen hk1_ 3; have hcb618_4 := (blk_cell hk1_ 4).trans rfl; have hfb618_4 := blk_frozen hk1_ 4; clear hk1_) | (go_at_call 11; (with_reducible refine (phaetonlaw04_Great.calls a0_0 a0_1 a0_2 a0_3 _ _ l0_4 false _ ?side1 ?side2 A6.out).mono ?_); (case side1 => repeat (first | exact (Kd.C_below HR0_4.out HB.out) | (with_reducible refine Kd.C_alloc ?_ _) | (with_reducible refine Kd.C_drewN ?_ _) | (with_reducible refine Kd.C_drew ?_))); (case side2 => exact HC0_4.out); rintro e w12 ⟨rfl, hb⟩; have n0_ := Aside0.mk (blk_below (g := gb618) (o := .cells #[.bool a0_0, .int .i64 a0_1, .bool a0_2, .int .i64 a0_3, .slice A0_4 l0_4.length c0_4] 24 (0, 0)) (by (with_reducible repeat (first | refine blk_drewN ?_ _ | refine blk_drew ?_ | refine blk_alloc ?_ _)); exact BK618.out) hb); have n1_ := Aside0.mk (below_step (by repeat (first | (with_reducible first | exact HB.out | apply below_alloc | apply pw_below_drewN | apply below_drew1 | refine below_set ?_ GE618.out) | exact HB.out)) hb); clear BK618; clear HB; have BK618 := n0_; have HB := n1_; clear n0_ n1_; (try clear hb); (try clear hb2); (try clear hk); (try clear hi); have hcz13_0 : w12.cell? ⟨gb618, 0, none⟩ = some (.bool a0_0) := (blk_cell BK618.out 0).trans rfl; have hcz13_1 : w12.cell? ⟨gb618, 1, none⟩ = some (.int .i64 a0_1) := (blk_cell BK618.out 1).trans rfl; have hcz13_2 : w12.cell? ⟨gb618, 2, none⟩ = some (.bool a0_2) := (blk_cell BK618.out 2).trans rfl; have hcz13_3 : w12.cell? ⟨gb618, 3, none⟩ = some (.int .i64 a0_3) := (blk_cell BK618.out 3).trans rfl; have hcz13_4 : w12.cell? ⟨gb618, 4, none⟩ = some (.slice A0_4 l0_4.length c0_4) := (blk_cell BK618.out 4).trans rfl; have hfz13_0 := blk_frozen BK618.out 0; have hfz13_1 := blk_frozen BK618.out 1; have hfz13_2 := blk_frozen BK618.out 2; have hfz13_3 := blk_frozen BK618.out 3; have hfz13_4 := blk_frozen BK618.out 4) | (go_at_call 12; (with_reducible refine (phaetonref04_Right.calls k a0_0 a0_1 a0_2 a0_3 _ _ l0_4 t621 _ ?side1 ?side2 A10.out).mono ?_); (case side1 => repeat (first | exact (Kd.C_below HR0_4.out HB.out) | (with_reducible refine Kd.C_alloc ?_ _) | (with_reducible refine Kd.C_drewN ?_ _) | (with_reducible refine Kd.C_drew ?_))); (case side2 => exact HC0_4.out); rintro e w14 ⟨rfl, hb⟩; have n0_ := Aside0.mk (blk_below (g := gb618) (o := .cells #[.bool a0_0, .int .i64 a0_1, .bool a0_2, .int .i64 a0_3, .slice A0_4 l0_4.length c0_4] 24 (0, 0)) (by (with_reducible repeat (first | refine blk_drewN ?_ _ | refine blk_drew ?_ | refine blk_alloc ?_ _)); exact BK618.out) hb); have n1_ := Aside0.mk (below_step (by repeat (first | (with_reducible first | exact HB.out | apply below_alloc | apply pw_below_drewN | apply below_drew1 | refine below_set ?_ GE618.out) | exact HB.out)) hb); clear BK618; clear HB; have BK618 := n0_; have HB := n1_; clear n0_ n1_; (try clear hb); (try clear hb2); (try clear hk); (try clear hi)))
      repeat (go_quiet (first | (go_at_call 11; (with_reducible refine (phaetonlaw04_Great.calls a0_0 a0_1 a0_2 a0_3 _ _ l0_4 false _ ?side1 ?side2 A6.out).mono ?_); (case side1 => repeat (first | exact (Kd.C_below HR0_4.out HB.out) | (with_reducible refine Kd.C_alloc ?_ _) | (with_reducible refine Kd.C_drewN ?_ _) | (with_reducible refine Kd.C_drew ?_))); (case side2 => exact HC0_4.out); rintro e w12 ⟨rfl, hb⟩; have n0_ := Aside0.mk (blk_below (g := gb618) (o := .cells #[.bool a0_0, .int .i64 a0_1, .bool a0_2, .int .i64 a0_3, .slice A0_4 l0_4.length c0_4] 24 (0, 0)) (by (with_reducible repeat (first | refine blk_drewN ?_ _ | refine blk_drew ?_ | refine blk_alloc ?_ _)); exact BK618.out) hb); have n1_ := Aside0.mk (below_step (by repeat (first | (with_reducible first | exact HB.out | apply below_alloc | apply pw_below_drewN | apply below_drew1 | refine below_set ?_ GE618.out) | exact HB.out)) hb); clear BK618; clear HB; have BK618 := n0_; have HB := n1_; clear n0_ n1_; (try clear hb); (try clear hb2); (try clear hk); (try clear hi); have hcz13_0 : w12.cell? ⟨gb618, 0, none⟩ = some (.bool a0_0) := (blk_cell BK618.out 0).trans rfl; have hcz13_1 : w12.cell? ⟨gb618, 1, none⟩ = some (.int .i64 a0_1) := (blk_cell BK618.out 1).trans rfl; have hcz13_2 : w12.cell? ⟨gb618, 2, none⟩ = some (.bool a0_2) := (blk_cell BK618.out 2).trans rfl; have hcz13_3 : w12.cell? ⟨gb618, 3, none⟩ = some (.int .i64 a0_3) := (blk_cell BK618.out 3).trans rfl; have hcz13_4 : w12.cell? ⟨gb618, 4, none⟩ = some (.slice A0_4 l0_4.length c0_4) := (blk_cell BK618.out 4).trans rfl; have hfz13_0 := blk_frozen BK618.out 0; have hfz13_1 := blk_frozen BK618.out 1; have hfz13_2 := blk_frozen BK618.out 2; have hfz13_3 := blk_frozen BK618.out 3; have hfz13_4 := blk_frozen BK618.out 4) | (go_at_call 12; (with_reducible refine (phaetonref04_Right.calls k a0_0 a0_1 a0_2 a0_3 _ _ l0_4 t621 _ ?side1 ?side2 A10.out).mono ?_); (case side1 => repeat (first | exact (Kd.C_below HR0_4.out HB.out) | (with_reducible refine Kd.C_alloc ?_ _) | (with_reducible refine Kd.C_drewN ?_ _) | (with_reducible refine Kd.C_drew ?_))); (case side2 => exact HC0_4.out); rintro e w14 ⟨rfl, hb⟩; have n0_ := Aside0.mk (blk_below (g := gb618) (o := .cells #[.bool a0_0, .int .i64 a0_1, .bool a0_2, .int .i64 a0_3, .slice A0_4 l0_4.length c0_4] 24 (0, 0)) (by (with_reducible repeat (first | refine blk_drewN ?_ _ | refine blk_drew ?_ | refine blk_alloc ?_ _)); exact BK618.out) hb); have n1_ := Aside0.mk (below_step (by repeat (first | (with_reducible first | exact HB.out | apply below_alloc | apply pw_below_drewN | apply below_drew1 | refine below_set ?_ GE618.out) | exact HB.out)) hb); clear BK618; clear HB; have BK618 := n0_; have HB := n1_; clear n0_ n1_; (try clear hb); (try clear hb2); (try clear hk); (try clear hi))); try go_wp2_with (first | (go_at_call 11; (with_reducible refine (phaetonlaw04_Great.calls a0_0 a0_1 a0_2 a0_3 _ _ l0_4 false _ ?side1 ?side2 A6.out).mono ?_); (case side1 => repeat (first | exact (Kd.C_below HR0_4.out HB.out) | (with_reducible refine Kd.C_alloc ?_ _) | (with_reducible refine Kd.C_drewN ?_ _) | (with_reducible refine Kd.C_drew ?_))); (case side2 => exact HC0_4.out); rintro e w12 ⟨rfl, hb⟩; have n0_ := Aside0.mk (blk_below (g := gb618) (o := .cells #[.bool a0_0, .int .i64 a0_1, .bool a0_2, .int .i64 a0_3, .slice A0_4 l0_4.length c0_4] 24 (0, 0)) (by (with_reducible repeat (first | refine blk_drewN ?_ _ | refine blk_drew ?_ | refine blk_alloc ?_ _)); exact BK618.out) hb); have n1_ := Aside0.mk (below_step (by repeat (first | (with_reducible first | exact HB.out | apply below_alloc | apply pw_below_drewN | apply below_drew1 | refine below_set ?_ GE618.out) | exact HB.out)) hb); clear BK618; clear HB; have BK618 := n0_; have HB := n1_; clear n0_ n1_; (try clear hb); (try clear hb2); (try clear hk); (try clear hi); have hcz13_0 : w12.cell? ⟨gb618, 0, none⟩ = some (.bool a0_0) := (blk_cell BK618.out 0).trans rfl; have hcz13_1 : w12.cell? ⟨gb618, 1, none⟩ = some (.int .i64 a0_1) := (blk_cell BK618.out 1).trans rfl; have hcz13_2 : w12.cell? ⟨gb618, 2, none⟩ = some (.bool a0_2) := (blk_cell BK618.out 2).trans rfl; have hcz13_3 : w12.cell? ⟨gb618, 3, none⟩ = some (.int .i64 a0_3) := (blk_cell BK618.out 3).trans rfl; have hcz13_4 : w12.cell? ⟨gb618, 4, none⟩ = some (.slice A0_4 l0_4.length c0_4) := (blk_cell BK618.out 4).trans rfl; have hfz13_0 := blk_frozen BK618.out 0; have hfz13_1 := blk_frozen BK618.out 1; have hfz13_2 := blk_frozen BK618.out 2; have hfz13_3 := blk_frozen BK618.out 3; have hfz13_4 := blk_frozen BK618.out 4) | (go_at_call 12; (with_reducible refine (phaetonref04_Right.calls k a0_0 a0_1 a0_2 a0_3 _ _ l0_4 t621 _ ?side1 ?side2 A10.out).mono ?_); (case side1 => repeat (first | exact (Kd.C_below HR0_4.out HB.out) | (with_reducible refine Kd.C_alloc ?_ _) | (with_reducible refine Kd.C_drewN ?_ _) | (with_reducible refine Kd.C_drew ?_))); (case side2 => exact HC0_4.out); rintro e w14 ⟨rfl, hb⟩; have n0_ := Aside0.mk (blk_below (g := gb618) (o := .cells #[.bool a0_0, .int .i64 a0_1, .bool a0_2, .int .i64 a0_3, .slice A0_4 l0_4.length c0_4] 24 (0, 0)) (by (with_reducible repeat (first | refine blk_drewN ?_ _ | refine blk_drew ?_ | refine blk_alloc ?_ _)); exact BK618.out) hb); have n1_ := Aside0.mk (below_step (by repeat (first | (with_reducible first | exact HB.out | apply below_alloc | apply pw_below_drewN | apply below_drew1 | refine below_set ?_ GE618.out) | exact HB.out)) hb); clear BK618; clear HB; have BK618 := n0_; have HB := n1_; clear n0_ n1_; (try clear hb); (try clear hb2); (try clear hk); (try clear hi))))
      go_meet
      case rel => exact ⟨_, (!t621), (by first | rfl | (simp; done) | (simp [*]; done)), H', ⟨by first | omega | exact Nat.le_refl _⟩, ⟨by (with_reducible repeat (first | refine blk_drewN ?_ _ | refine blk_drew ?_ | refine blk_alloc ?_ _)); exact BK618.out⟩, ⟨by repeat (first | (with_reducible first | exact HB.out | apply below_alloc | apply pw_below_drewN | apply below_drew1 | refine below_set ?_ GE618.out) | exact HB.out)⟩⟩
  case rest =>
    clear HC3
    try clear p2
    try clear c6
    try clear c7
    try clear hcz11_0
    try clear hcz11_1
    try clear hcz11_2
    try clear hcz11_3
    try clear hcz11_4
    try clear hcz13_0
    try clear hcz13_1
    try clear hcz13_2
    try clear hcz13_3
    try clear hcz13_4
    try clear hcz8_0
    try clear hcz8_1
    try clear hcz8_2
    try clear hcz8_3
    try clear hcz8_4
    try clear hfz11_0
    try clear hfz11_1
    try clear hfz11_2
    try clear hfz11_3
    try clear hfz11_4
    try clear hfz13_0
    try clear hfz13_1
    try clear hfz13_2
    try clear hfz13_3
    try clear hfz13_4
    try clear hfz8_0
    try clear hfz8_1
    try clear hfz8_2
    try clear hfz8_3
    try clear hfz8_4
    obtain ⟨kq, x16_2, rfl, HA, HJ2, BK618, HB⟩ := hcut
    cases kq with
    | zero => exact absurd HA.out (by simp [phaetonlaw05_WireRuns.j0])
    | succ kj2 =>
      have H := HA.out
      clear HA
      simp only [phaetonlaw05_WireRuns.j0] at H
      by_cases c15 : x16_2 = true
      · subst c15
        have H1 : (if t619 = true then (some true) else (none)) = some r := by rw [if_pos rfl] at H; exact H
        clear H
        have H := H1
        clear H1
        by_cases c16 : t619 = true
        · subst c16
          have H1 : (some true) = some r := by rw [if_pos rfl] at H; exact H
          clear H
          have H := H1
          clear H1
          obtain rfl := Option.some.inj H
          go_wp2
          repeat (go_quiet (fail); try go_wp2)
          go_ret
          exact ⟨by first | rfl | (simp [errW_none, errW_some] <;> rfl) | (simp [*, errW_none, errW_some] <;> rfl), by repeat (first | (with_reducible first | exact HB.out | apply below_alloc | apply pw_below_drewN | apply below_drew1 | refine below_set ?_ GE618.out) | exact HB.out)⟩
        · replace c16 := Bool.eq_false_iff.mpr c16
          subst c16
          have H1 : (none) = some r := by rw [if_neg (show ¬ (false = true) by decide)] at H; exact H
          clear H
          have H := H1
          clear H1
          exact absurd H (by simp)
      · replace c15 := Bool.eq_false_iff.mpr c15
        subst c15
        have H1 : ((wire_Bits.f a0_0 a0_1 a0_2 a0_3 l0_4).bind fun t622 => ((phaetonref04_Head.f kj2 a0_0 a0_1 a0_2 a0_3 l0_4).bind fun t625 => ((wire_Length.f a0_0 a0_1 a0_2 a0_3 l0_4).bind fun t628 => (if (t622.length : Int) = t628 then (if (t622.length : Int) < (wrap64 ((t625.length : Int) + 25)) then (phaetonlaw05_WireRuns.j1 kj2 t619 t622 true) else ((wire_Most.f a0_0 (l0_4.length : Int)).bind fun t629 => (if (t622.length : Int) > t629 then (phaetonlaw05_WireRuns.j1 kj2 t619 t622 true) else ((phaetonref01_Right.f kj2 t622).bind fun t630 => (phaetonlaw05_WireRuns.j1 kj2 t619 t622 (!t630)))))) else (phaetonlaw05_WireRuns.j1 kj2 t619 t622 true))))) = some r := by rw [if_neg (show ¬ (false = true) by decide)] at H; exact H
        clear H
        have H := H1
        clear H1
        replace H := Option.bind_eq_some_iff.mp H
        obtain ⟨t622, A170, H⟩ := H
        replace H : ((phaetonref04_Head.f kj2 a0_0 a0_1 a0_2 a0_3 l0_4).bind fun t625 => ((wire_Length.f a0_0 a0_1 a0_2 a0_3 l0_4).bind fun t628 => (if (t622.length : Int) = t628 then (if (t622.length : Int) < (wrap64 ((t625.length : Int) + 25)) then (phaetonlaw05_WireRuns.j1 kj2 t619 t622 true) else ((wire_Most.f a0_0 (l0_4.length : Int)).bind fun t629 => (if (t622.length : Int) > t629 then (phaetonlaw05_WireRuns.j1 kj2 t619 t622 true) else ((phaetonref01_Right.f kj2 t622).bind fun t630 => (phaetonlaw05_WireRuns.j1 kj2 t619 t622 (!t630)))))) else (phaetonlaw05_WireRuns.j1 kj2 t619 t622 true)))) = some r := H
        have A17 := Aside0.mk A170
        clear A170
        replace H := Option.bind_eq_some_iff.mp H
        obtain ⟨t625, A180, H⟩ := H
        replace H : ((wire_Length.f a0_0 a0_1 a0_2 a0_3 l0_4).bind fun t628 => (if (t622.length : Int) = t628 then (if (t622.length : Int) < (wrap64 ((t625.length : Int) + 25)) then (phaetonlaw05_WireRuns.j1 kj2 t619 t622 true) else ((wire_Most.f a0_0 (l0_4.length : Int)).bind fun t629 => (if (t622.length : Int) > t629 then (phaetonlaw05_WireRuns.j1 kj2 t619 t622 true) else ((phaetonref01_Right.f kj2 t622).bind fun t630 => (phaetonlaw05_WireRuns.j1 kj2 t619 t622 (!t630)))))) else (phaetonlaw05_WireRuns.j1 kj2 t619 t622 true))) = some r := H
        have A18 := Aside0.mk A180
        clear A180
        have HC19 := Aside0.mk H
        clear H
        have hcz20_0 : wc.cell? ⟨gb618, 0, none⟩ = some (.bool a0_0) := (blk_cell BK618.out 0).trans rfl
        have hcz20_1 : wc.cell? ⟨gb618, 1, none⟩ = some (.int .i64 a0_1) := (blk_cell BK618.out 1).trans rfl
        have hcz20_2 : wc.cell? ⟨gb618, 2, none⟩ = some (.bool a0_2) := (blk_cell BK618.out 2).trans rfl
        have hcz20_3 : wc.cell? ⟨gb618, 3, none⟩ = some (.int .i64 a0_3) := (blk_cell BK618.out 3).trans rfl
        have hcz20_4 : wc.cell? ⟨gb618, 4, none⟩ = some (.slice A0_4 l0_4.length c0_4) := (blk_cell BK618.out 4).trans rfl
        have hfz20_0 := blk_frozen BK618.out 0
        have hfz20_1 := blk_frozen BK618.out 1
        have hfz20_2 := blk_frozen BK618.out 2
        have hfz20_3 := blk_frozen BK618.out 3
        have hfz20_4 := blk_frozen BK618.out 4
        go_upto_region 6 with (first | (go_at_call 14; (with_reducible refine (wire_Bits.calls a0_0 a0_1 a0_2 a0_3 _ _ l0_4 t622 _ ?side1 ?side2 A17.out).mono ?_); (case side1 => repeat (first | exact (Kd.C_below HR0_4.out HB.out) | (with_reducible refine Kd.C_alloc ?_ _) | (with_reducible refine Kd.C_drewN ?_ _) | (with_reducible refine Kd.C_drew ?_))); (case side2 => exact HC0_4.out); rintro e w21 ⟨v623, rfl, ho0, hb⟩; have n0_ := Aside0.mk (Kd.R_lower ho0 (below_size (by repeat (first | (with_reducible first | exact HB.out | apply below_alloc | apply pw_below_drewN | apply below_drew1 | refine below_set ?_ GE618.out) | exact HB.out)))); have n1_ := Aside0.mk (blk_below (g := gb618) (o := .cells #[.bool a0_0, .int .i64 a0_1, .bool a0_2, .int .i64 a0_3, .slice A0_4 l0_4.length c0_4] 24 (0, 0)) (by (with_reducible repeat (first | refine blk_drewN ?_ _ | refine blk_drew ?_ | refine blk_alloc ?_ _)); exact BK618.out) hb); have n2_ := Aside0.mk (below_step (by repeat (first | (with_reducible first | exact HB.out | apply below_alloc | apply pw_below_drewN | apply below_drew1 | refine below_set ?_ GE618.out) | exact HB.out)) hb); clear BK618; clear HB; have HO624 := n0_; have BK618 := n1_; have HB := n2_; clear n0_ n1_ n2_; (try clear hb); (try clear hb2); (try clear hk); (try clear hi); (try clear ho0); have hcz22_0 : w21.cell? ⟨gb618, 0, none⟩ = some (.bool a0_0) := (blk_cell BK618.out 0).trans rfl; have hcz22_1 : w21.cell? ⟨gb618, 1, none⟩ = some (.int .i64 a0_1) := (blk_cell BK618.out 1).trans rfl; have hcz22_2 : w21.cell? ⟨gb618, 2, none⟩ = some (.bool a0_2) := (blk_cell BK618.out 2).trans rfl; have hcz22_3 : w21.cell? ⟨gb618, 3, none⟩ = some (.int .i64 a0_3) := (blk_cell BK618.out 3).trans rfl; have hcz22_4 : w21.cell? ⟨gb618, 4, none⟩ = some (.slice A0_4 l0_4.length c0_4) := (blk_cell BK618.out 4).trans rfl; have hfz22_0 := blk_frozen BK618.out 0; have hfz22_1 := blk_frozen BK618.out 1; have hfz22_2 := blk_frozen BK618.out 2; have hfz22_3 := blk_frozen BK618.out 3; have hfz22_4 := blk_frozen BK618.out 4) | (go_at_call 24; (with_reducible refine (phaetonref04_Head.calls kj2 a0_0 a0_1 a0_2 a0_3 _ _ l0_4 t625 _ ?side1 ?side2 A18.out).mono ?_); (case side1 => repeat (first | exact (Kd.C_below HR0_4.out HB.out) | (with_reducible refine Kd.C_alloc ?_ _) | (with_reducible refine Kd.C_drewN ?_ _) | (with_reducible refine Kd.C_drew ?_))); (case side2 => exact HC0_4.out); rintro e w23 ⟨v626, rfl, ho0, hb⟩; have n0_ := Aside0.mk (Kd.R_elder' (by (with_reducible repeat (first | apply Kd.R_alloc | apply Kd.R_drewN | apply Kd.R_drew)); exact HO624.out) (Kd.R_base ho0) hb); have n1_ := Aside0.mk (Kd.R_lower (Kd.R_new' ho0 (Kd.R_lt (by (with_reducible repeat (first | apply Kd.R_alloc | apply Kd.R_drewN | apply Kd.R_drew)); exact HO624.out))) (below_size (by repeat (first | (with_reducible first | exact HB.out | apply below_alloc | apply pw_below_drewN | apply below_drew1 | refine below_set ?_ GE618.out) | exact HB.out)))); have n2_ := Aside0.mk (blk_below (g := gb618) (o := .cells #[.bool a0_0, .int .i64 a0_1, .bool a0_2, .int .i64 a0_3, .slice A0_4 l0_4.length c0_4] 24 (0, 0)) (by (with_reducible repeat (first | refine blk_drewN ?_ _ | refine blk_drew ?_ | refine blk_alloc ?_ _)); exact BK618.out) hb); have n3_ := Aside0.mk (below_step (by repeat (first | (with_reducible first | exact HB.out | apply below_alloc | apply pw_below_drewN | apply below_drew1 | refine below_set ?_ GE618.out) | exact HB.out)) hb); clear HO624; clear BK618; clear HB; have HO624 := n0_; have HO627 := n1_; have BK618 := n2_; have HB := n3_; clear n0_ n1_ n2_ n3_; (try clear hb); (try clear hb2); (try clear hk); (try clear hi); (try clear ho0); obtain ⟨Ao24, co24, eo24⟩ := Kd.R_slice HO627.out; subst eo24))
        repeat (go_quiet (first | (go_at_call 14; (with_reducible refine (wire_Bits.calls a0_0 a0_1 a0_2 a0_3 _ _ l0_4 t622 _ ?side1 ?side2 A17.out).mono ?_); (case side1 => repeat (first | exact (Kd.C_below HR0_4.out HB.out) | (with_reducible refine Kd.C_alloc ?_ _) | (with_reducible refine Kd.C_drewN ?_ _) | (with_reducible refine Kd.C_drew ?_))); (case side2 => exact HC0_4.out); rintro e w21 ⟨v623, rfl, ho0, hb⟩; have n0_ := Aside0.mk (Kd.R_lower ho0 (below_size (by repeat (first | (with_reducible first | exact HB.out | apply below_alloc | apply pw_below_drewN | apply below_drew1 | refine below_set ?_ GE618.out) | exact HB.out)))); have n1_ := Aside0.mk (blk_below (g := gb618) (o := .cells #[.bool a0_0, .int .i64 a0_1, .bool a0_2, .int .i64 a0_3, .slice A0_4 l0_4.length c0_4] 24 (0, 0)) (by (with_reducible repeat (first | refine blk_drewN ?_ _ | refine blk_drew ?_ | refine blk_alloc ?_ _)); exact BK618.out) hb); have n2_ := Aside0.mk (below_step (by repeat (first | (with_reducible first | exact HB.out | apply below_alloc | apply pw_below_drewN | apply below_drew1 | refine below_set ?_ GE618.out) | exact HB.out)) hb); clear BK618; clear HB; have HO624 := n0_; have BK618 := n1_; have HB := n2_; clear n0_ n1_ n2_; (try clear hb); (try clear hb2); (try clear hk); (try clear hi); (try clear ho0); have hcz22_0 : w21.cell? ⟨gb618, 0, none⟩ = some (.bool a0_0) := (blk_cell BK618.out 0).trans rfl; have hcz22_1 : w21.cell? ⟨gb618, 1, none⟩ = some (.int .i64 a0_1) := (blk_cell BK618.out 1).trans rfl; have hcz22_2 : w21.cell? ⟨gb618, 2, none⟩ = some (.bool a0_2) := (blk_cell BK618.out 2).trans rfl; have hcz22_3 : w21.cell? ⟨gb618, 3, none⟩ = some (.int .i64 a0_3) := (blk_cell BK618.out 3).trans rfl; have hcz22_4 : w21.cell? ⟨gb618, 4, none⟩ = some (.slice A0_4 l0_4.length c0_4) := (blk_cell BK618.out 4).trans rfl; have hfz22_0 := blk_frozen BK618.out 0; have hfz22_1 := blk_frozen BK618.out 1; have hfz22_2 := blk_frozen BK618.out 2; have hfz22_3 := blk_frozen BK618.out 3; have hfz22_4 := blk_frozen BK618.out 4) | (go_at_call 24; (with_reducible refine (phaetonref04_Head.calls kj2 a0_0 a0_1 a0_2 a0_3 _ _ l0_4 t625 _ ?side1 ?side2 A18.out).mono ?_); (case side1 => repeat (first | exact (Kd.C_below HR0_4.out HB.out) | (with_reducible refine Kd.C_alloc ?_ _) | (with_reducible refine Kd.C_drewN ?_ _) | (with_reducible refine Kd.C_drew ?_))); (case side2 => exact HC0_4.out); rintro e w23 ⟨v626, rfl, ho0, hb⟩; have n0_ := Aside0.mk (Kd.R_elder' (by (with_reducible repeat (first | apply Kd.R_alloc | apply Kd.R_drewN | apply Kd.R_drew)); exact HO624.out) (Kd.R_base ho0) hb); have n1_ := Aside0.mk (Kd.R_lower (Kd.R_new' ho0 (Kd.R_lt (by (with_reducible repeat (first | apply Kd.R_alloc | apply Kd.R_drewN | apply Kd.R_drew)); exact HO624.out))) (below_size (by repeat (first | (with_reducible first | exact HB.out | apply below_alloc | apply pw_below_drewN | apply below_drew1 | refine below_set ?_ GE618.out) | exact HB.out)))); have n2_ := Aside0.mk (blk_below (g := gb618) (o := .cells #[.bool a0_0, .int .i64 a0_1, .bool a0_2, .int .i64 a0_3, .slice A0_4 l0_4.length c0_4] 24 (0, 0)) (by (with_reducible repeat (first | refine blk_drewN ?_ _ | refine blk_drew ?_ | refine blk_alloc ?_ _)); exact BK618.out) hb); have n3_ := Aside0.mk (below_step (by repeat (first | (with_reducible first | exact HB.out | apply below_alloc | apply pw_below_drewN | apply below_drew1 | refine below_set ?_ GE618.out) | exact HB.out)) hb); clear HO624; clear BK618; clear HB; have HO624 := n0_; have HO627 := n1_; have BK618 := n2_; have HB := n3_; clear n0_ n1_ n2_ n3_; (try clear hb); (try clear hb2); (try clear hk); (try clear hi); (try clear ho0); obtain ⟨Ao24, co24, eo24⟩ := Kd.R_slice HO627.out; subst eo24)); go_upto_region 6 with (first | (go_at_call 14; (with_reducible refine (wire_Bits.calls a0_0 a0_1 a0_2 a0_3 _ _ l0_4 t622 _ ?side1 ?side2 A17.out).mono ?_); (case side1 => repeat (first | exact (Kd.C_below HR0_4.out HB.out) | (with_reducible refine Kd.C_alloc ?_ _) | (with_reducible refine Kd.C_drewN ?_ _) | (with_reducible refine Kd.C_drew ?_))); (case side2 => exact HC0_4.out); rintro e w21 ⟨v623, rfl, ho0, hb⟩; have n0_ := Aside0.mk (Kd.R_lower ho0 (below_size (by repeat (first | (with_reducible first | exact HB.out | apply below_alloc | apply pw_below_drewN | apply below_drew1 | refine below_set ?_ GE618.out) | exact HB.out)))); have n1_ := Aside0.mk (blk_below (g := gb618) (o := .cells #[.bool a0_0, .int .i64 a0_1, .bool a0_2, .int .i64 a0_3, .slice A0_4 l0_4.length c0_4] 24 (0, 0)) (by (with_reducible repeat (first | refine blk_drewN ?_ _ | refine blk_drew ?_ | refine blk_alloc ?_ _)); exact BK618.out) hb); have n2_ := Aside0.mk (below_step (by repeat (first | (with_reducible first | exact HB.out | apply below_alloc | apply pw_below_drewN | apply below_drew1 | refine below_set ?_ GE618.out) | exact HB.out)) hb); clear BK618; clear HB; have HO624 := n0_; have BK618 := n1_; have HB := n2_; clear n0_ n1_ n2_; (try clear hb); (try clear hb2); (try clear hk); (try clear hi); (try clear ho0); have hcz22_0 : w21.cell? ⟨gb618, 0, none⟩ = some (.bool a0_0) := (blk_cell BK618.out 0).trans rfl; have hcz22_1 : w21.cell? ⟨gb618, 1, none⟩ = some (.int .i64 a0_1) := (blk_cell BK618.out 1).trans rfl; have hcz22_2 : w21.cell? ⟨gb618, 2, none⟩ = some (.bool a0_2) := (blk_cell BK618.out 2).trans rfl; have hcz22_3 : w21.cell? ⟨gb618, 3, none⟩ = some (.int .i64 a0_3) := (blk_cell BK618.out 3).trans rfl; have hcz22_4 : w21.cell? ⟨gb618, 4, none⟩ = some (.slice A0_4 l0_4.length c0_4) := (blk_cell BK618.out 4).trans rfl; have hfz22_0 := blk_frozen BK618.out 0; have hfz22_1 := blk_frozen BK618.out 1; have hfz22_2 := blk_frozen BK618.out 2; have hfz22_3 := blk_frozen BK618.out 3; have hfz22_4 := blk_frozen BK618.out 4) | (go_at_call 24; (with_reducible refine (phaetonref04_Head.calls kj2 a0_0 a0_1 a0_2 a0_3 _ _ l0_4 t625 _ ?side1 ?side2 A18.out).mono ?_); (case side1 => repeat (first | exact (Kd.C_below HR0_4.out HB.out) | (with_reducible refine Kd.C_alloc ?_ _) | (with_reducible refine Kd.C_drewN ?_ _) | (with_reducible refine Kd.C_drew ?_))); (case side2 => exact HC0_4.out); rintro e w23 ⟨v626, rfl, ho0, hb⟩; have n0_ := Aside0.mk (Kd.R_elder' (by (with_reducible repeat (first | apply Kd.R_alloc | apply Kd.R_drewN | apply Kd.R_drew)); exact HO624.out) (Kd.R_base ho0) hb); have n1_ := Aside0.mk (Kd.R_lower (Kd.R_new' ho0 (Kd.R_lt (by (with_reducible repeat (first | apply Kd.R_alloc | apply Kd.R_drewN | apply Kd.R_drew)); exact HO624.out))) (below_size (by repeat (first | (with_reducible first | exact HB.out | apply below_alloc | apply pw_below_drewN | apply below_drew1 | refine below_set ?_ GE618.out) | exact HB.out)))); have n2_ := Aside0.mk (blk_below (g := gb618) (o := .cells #[.bool a0_0, .int .i64 a0_1, .bool a0_2, .int .i64 a0_3, .slice A0_4 l0_4.length c0_4] 24 (0, 0)) (by (with_reducible repeat (first | refine blk_drewN ?_ _ | refine blk_drew ?_ | refine blk_alloc ?_ _)); exact BK618.out) hb); have n3_ := Aside0.mk (below_step (by repeat (first | (with_reducible first | exact HB.out | apply below_alloc | apply pw_below_drewN | apply below_drew1 | refine below_set ?_ GE618.out) | exact HB.out)) hb); clear HO624; clear BK618; clear HB; have HO624 := n0_; have HO627 := n1_; have BK618 := n2_; have HB := n3_; clear n0_ n1_ n2_ n3_; (try clear hb); (try clear hb2); (try clear hk); (try clear hi); (try clear ho0); obtain ⟨Ao24, co24, eo24⟩ := Kd.R_slice HO627.out; subst eo24)))
        (try simp only [Act.put, List.setIfInBounds_toArray, List.set_cons_zero, List.set_cons_succ])
        go_cut [50] (fun v50 wc => ∃ (kq : Nat) (x50_18 : Bool), v50 = .bool x50_18 ∧ Aside0 (phaetonlaw05_WireRuns.j1 kq t619 t622 x50_18 = some r) ∧ Aside0 (kq ≤ kj2) ∧ Aside0 (Kd.R (Kd.int .i64) 3 wc w.heap.size (fun _ => True) v623 t622) ∧ Aside0 (wc.heap[gb618]? = some (.cells #[.bool a0_0, .int .i64 a0_1, .bool a0_2, .int .i64 a0_3, (.slice A0_4 l0_4.length c0_4)] 24 (0, 0))) ∧ Aside0 (Below w.heap.size w wc))
        case first =>
          have H := HC19.out
          clear HC19
          replace H := Option.bind_eq_some_iff.mp H
          obtain ⟨t628, A250, H⟩ := H
          replace H : (if (t622.length : Int) = t628 then (if (t622.length : Int) < (wrap64 ((t625.length : Int) + 25)) then (phaetonlaw05_WireRuns.j1 kj2 t619 t622 true) else ((wire_Most.f a0_0 (l0_4.length : Int)).bind fun t629 => (if (t622.length : Int) > t629 then (phaetonlaw05_WireRuns.j1 kj2 t619 t622 true) else ((phaetonref01_Right.f kj2 t622).bind fun t630 => (phaetonlaw05_WireRuns.j1 kj2 t619 t622 (!t630)))))) else (phaetonlaw05_WireRuns.j1 kj2 t619 t622 true)) = some r := H
          have A25 := Aside0.mk A250
          clear A250
          by_cases c26 : (t622.length : Int) = t628
          · rw [if_pos c26] at H
            have c26b0 : ((t622.length : Int) == t628) = true := beq_iff_eq.mpr c26
            have c26b1 : ((t622.length : Int) != t628) = false := bne_eq_false_iff_eq.mpr c26
            clear c26
            (first | rw [c26b0] | (simp only [i64_w, i32_w]; rw [c26b0]) | skip)
            by_cases c27 : (t622.length : Int) < (wrap64 ((t625.length : Int) + 25))
            · rw [if_pos c27] at H
              have c27b0 : decide ((t622.length : Int) < (wrap64 ((t625.length : Int) + 25))) = true := decide_eq_true c27
              clear c27
              have H' := Aside0.mk H
              clear H
              obtain ⟨Ao28, co28, eo28⟩ := Kd.R_slice HO624.out
              subst eo28
              have hcz29_0 : w23.cell? ⟨gb618, 0, none⟩ = some (.bool a0_0) := (blk_cell BK618.out 0).trans rfl
              have hcz29_1 : w23.cell? ⟨gb618, 1, none⟩ = some (.int .i64 a0_1) := (blk_cell BK618.out 1).trans rfl
              have hcz29_2 : w23.cell? ⟨gb618, 2, none⟩ = some (.bool a0_2) := (blk_cell BK618.out 2).trans rfl
              have hcz29_3 : w23.cell? ⟨gb618, 3, none⟩ = some (.int .i64 a0_3) := (blk_cell BK618.out 3).trans rfl
              have hcz29_4 : w23.cell? ⟨gb618, 4, none⟩ = some (.slice A0_4 l0_4.length c0_4) := (blk_cell BK618.out 4).trans rfl
              have hfz29_0 := blk_frozen BK618.out 0
              have hfz29_1 := blk_frozen BK618.out 1
              have hfz29_2 := blk_frozen BK618.out 2
              have hfz29_3 := blk_frozen BK618.out 3
              have hfz29_4 := blk_frozen BK618.out 4
              go_wp2_with (first | ((with_reducible refine gate_store (t := 24) (p := 1) rfl ?_); refine HW.store_box2 rfl rfl 24 _ _ rfl rfl rfl BK618.out rfl (by kernel_rfl) (by intro q hq; simp only [List.mem_cons, List.not_mem_nil, or_false] at hq; rcases hq with rfl | rfl | rfl | rfl | rfl <;> rfl) ?_; intro w1_ hw1_ hk1_; simp only [List.toList_toArray, World.setCells, Nat.zero_add, Nat.reduceAdd] at hw1_; subst hw1_; have hcb618_0 := (blk_cell hk1_ 0).trans rfl; have hfb618_0 := blk_frozen hk1_ 0; have hcb618_1 := (blk_cell hk1_ 1).trans rfl; have hfb618_1 := blk_frozen hk1_ 1; have hcb618_2 := (blk_cell hk1_ 2).trans rfl; have hfb618_2 := blk_frozen hk1_ 2; have hcb618_3 := (blk_cell hk1_ 3).trans rfl; have hfb618_3 := blk_frozen hk1_ 3; have hcb618_4 := (blk_cell hk1_ 4).trans rfl; have hfb618_4 := blk_frozen hk1_ 4; clear hk1_) | (go_at_call 16; (with_reducible refine (wire_Length.calls a0_0 a0_1 a0_2 a0_3 _ _ l0_4 t628 _ ?side1 ?side2 A25.out).mono ?_); (case side1 => repeat (first | exact (Kd.C_below HR0_4.out HB.out) | (with_reducible refine Kd.C_alloc ?_ _) | (with_reducible refine Kd.C_drewN ?_ _) | (with_reducible refine Kd.C_drew ?_))); (case side2 => exact HC0_4.out); rintro e w30 ⟨rfl, hb⟩; have n0_ := Aside0.mk (Kd.R_below (by (with_reducible repeat (first | apply Kd.R_alloc | apply Kd.R_drewN | apply Kd.R_drew)); exact HO624.out) hb); have n1_ := Aside0.mk (Kd.R_below (by (with_reducible repeat (first | apply Kd.R_alloc | apply Kd.R_drewN | apply Kd.R_drew)); exact HO627.out) hb); have n2_ := Aside0.mk (blk_below (g := gb618) (o := .cells #[.bool a0_0, .int .i64 a0_1, .bool a0_2, .int .i64 a0_3, .slice A0_4 l0_4.length c0_4] 24 (0, 0)) (by (with_reducible repeat (first | refine blk_drewN ?_ _ | refine blk_drew ?_ | refine blk_alloc ?_ _)); exact BK618.out) hb); have n3_ := Aside0.mk (below_step (by repeat (first | (with_reducible first | exact HB.out | apply below_alloc | apply pw_below_drewN | apply below_drew1 | refine below_set ?_ GE618.out) | exact HB.out)) hb); clear HO624; clear HO627; clear BK618; clear HB; have HO624 := n0_; have HO627 := n1_; have BK618 := n2_; have HB := n3_; clear n0_ n1_ n2_ n3_; (try clear hb); (try clear hb2); (try clear hk); (try clear hi)))
              repeat (go_quiet (first | (go_at_call 16; (with_reducible refine (wire_Length.calls a0_0 a0_1 a0_2 a0_3 _ _ l0_4 t628 _ ?side1 ?side2 A25.out).mono ?_); (case side1 => repeat (first | exact (Kd.C_below HR0_4.out HB.out) | (with_reducible refine Kd.C_alloc ?_ _) | (with_reducible refine Kd.C_drewN ?_ _) | (with_reducible refine Kd.C_drew ?_))); (case side2 => exact HC0_4.out); rintro e w30 ⟨rfl, hb⟩; have n0_ := Aside0.mk (Kd.R_below (by (with_reducible repeat (first | apply Kd.R_alloc | apply Kd.R_drewN | apply Kd.R_drew)); exact HO624.out) hb); have n1_ := Aside0.mk (Kd.R_below (by (with_reducible repeat (first | apply Kd.R_alloc | apply Kd.R_drewN | apply Kd.R_drew)); exact HO627.out) hb); have n2_ := Aside0.mk (blk_below (g := gb618) (o := .cells #[.bool a0_0, .int .i64 a0_1, .bool a0_2, .int .i64 a0_3, .slice A0_4 l0_4.length c0_4] 24 (0, 0)) (by (with_reducible repeat (first | refine blk_drewN ?_ _ | refine blk_drew ?_ | refine blk_alloc ?_ _)); exact BK618.out) hb); have n3_ := Aside0.mk (below_step (by repeat (first | (with_reducible first | exact HB.out | apply below_alloc | apply pw_below_drewN | apply below_drew1 | refine below_set ?_ GE618.out) | exact HB.out)) hb); clear HO624; clear HO627; clear BK618; clear HB; have HO624 := n0_; have HO627 := n1_; have BK618 := n2_; have HB := n3_; clear n0_ n1_ n2_ n3_; (try clear hb); (try clear hb2); (try clear hk); (try clear hi))); try go_wp2_with (first | (go_at_call 16; (with_reducible refine (wire_Length.calls a0_0 a0_1 a0_2 a0_3 _ _ l0_4 t628 _ ?side1 ?side2 A25.out).mono ?_); (case side1 => repeat (first | exact (Kd.C_below HR0_4.out HB.out) | (with_reducible refine Kd.C_alloc ?_ _) | (with_reducible refine Kd.C_drewN ?_ _) | (with_reducible refine Kd.C_drew ?_))); (case side2 => exact HC0_4.out); rintro e w30 ⟨rfl, hb⟩; have n0_ := Aside0.mk (Kd.R_below (by (with_reducible repeat (first | apply Kd.R_alloc | apply Kd.R_drewN | apply Kd.R_drew)); exact HO624.out) hb); have n1_ := Aside0.mk (Kd.R_below (by (with_reducible repeat (first | apply Kd.R_alloc | apply Kd.R_drewN | apply Kd.R_drew)); exact HO627.out) hb); have n2_ := Aside0.mk (blk_below (g := gb618) (o := .cells #[.bool a0_0, .int .i64 a0_1, .bool a0_2, .int .i64 a0_3, .slice A0_4 l0_4.length c0_4] 24 (0, 0)) (by (with_reducible repeat (first | refine blk_drewN ?_ _ | refine blk_drew ?_ | refine blk_alloc ?_ _)); exact BK618.out) hb); have n3_ := Aside0.mk (below_step (by repeat (first | (with_reducible first | exact HB.out | apply below_alloc | apply pw_below_drewN | apply below_drew1 | refine below_set ?_ GE618.out) | exact HB.out)) hb); clear HO624; clear HO627; clear BK618; clear HB; have HO624 := n0_; have HO627 := n1_; have BK618 := n2_; have HB := n3_; clear n0_ n1_ n2_ n3_; (try clear hb); (try clear hb2); (try clear hk); (try clear hi))))
              go_meet
              case rel => exact ⟨_, (true), (by first | rfl | (simp; done) | (simp [*]; done)), H', ⟨by have := HJ2.out; first | omega | exact Nat.le_refl _⟩, ⟨by (with_reducible repeat (first | apply Kd.R_alloc | apply Kd.R_drewN | apply Kd.R_drew)); exact Kd.R_mono HO624.out (fun _ hk => trivial)⟩, ⟨by (with_reducible repeat (first | refine blk_drewN ?_ _ | refine blk_drew ?_ | refine blk_alloc ?_ _)); exact BK618.out⟩, ⟨by repeat (first | (with_reducible first | exact HB.out | apply below_alloc | apply pw_below_drewN | apply below_drew1 | refine below_set ?_ GE618.out) | exact HB.out)⟩⟩
            · rw [if_neg c27] at H
              have c27b0 : decide ((t622.length : Int) < (wrap64 ((t625.length : Int) + 25))) = false := decide_eq_false c27
              clear c27
              replace H := Option.bind_eq_some_iff.mp H
              obtain ⟨t629, A310, H⟩ := H
              replace H : (if (t622.length : Int) > t629 then (phaetonlaw05_WireRuns.j1 kj2 t619 t622 true) else ((phaetonref01_Right.f kj2 t622).bind fun t630 => (phaetonlaw05_WireRuns.j1 kj2 t619 t622 (!t630)))) = some r := H
              have A31 := Aside0.mk A310
              clear A310
              by_cases c32 : (t622.length : Int) > t629
              · rw [if_pos c32] at H
                have c32b0 : decide (t629 < (t622.length : Int)) = true := decide_eq_true c32
                clear c32
                have H' := Aside0.mk H
                clear H
                obtain ⟨Ao33, co33, eo33⟩ := Kd.R_slice HO624.out
                subst eo33
                have hcz34_0 : w23.cell? ⟨gb618, 0, none⟩ = some (.bool a0_0) := (blk_cell BK618.out 0).trans rfl
                have hcz34_1 : w23.cell? ⟨gb618, 1, none⟩ = some (.int .i64 a0_1) := (blk_cell BK618.out 1).trans rfl
                have hcz34_2 : w23.cell? ⟨gb618, 2, none⟩ = some (.bool a0_2) := (blk_cell BK618.out 2).trans rfl
                have hcz34_3 : w23.cell? ⟨gb618, 3, none⟩ = some (.int .i64 a0_3) := (blk_cell BK618.out 3).trans rfl
                have hcz34_4 : w23.cell? ⟨gb618, 4, none⟩ = some (.slice A0_4 l0_4.length c0_4) := (blk_cell BK618.out 4).trans rfl
                have hfz34_0 := blk_frozen BK618.out 0
                have hfz34_1 := blk_frozen BK618.out 1
                have hfz34_2 := blk_frozen BK618.out 2
                have hfz34_3 := blk_frozen BK618.out 3
                have hfz34_4 := blk_frozen BK618.out 4
                go_wp2_with (first | ((with_reducible refine gate_store (t := 24) (p := 1) rfl ?_); refine HW.store_box2 rfl rfl 24 _ _ rfl rfl rfl BK618.out rfl (by kernel_rfl) (by intro q hq; simp only [List.mem_cons, List.not_mem_nil, or_false] at hq; rcases hq with rfl | rfl | rfl | rfl | rfl <;> rfl) ?_; intro w1_ hw1_ hk1_; simp only [List.toList_toArray, World.setCells, Nat.zero_add, Nat.reduceAdd] at hw1_; subst hw1_; have hcb618_0 := (blk_cell hk1_ 0).trans rfl; have hfb618_0 := blk_frozen hk1_ 0; have hcb618_1 := (blk_cell hk1_ 1).trans rfl; have hfb618_1 := blk_frozen hk1_ 1; have hcb618_2 := (blk_cell hk1_ 2).trans rfl; have hfb618_2 := blk_frozen hk1_ 2; have hcb618_3 := (blk_cell hk1_ 3).trans rfl; have hfb618_3 := blk_frozen hk1_ 3; have hcb618_4 := (blk_cell hk1_ 4).trans rfl; have hfb618_4 := blk_frozen hk1_ 4; clear hk1_) | (go_at_call 16; (with_reducible refine (wire_Length.calls a0_0 a0_1 a0_2 a0_3 _ _ l0_4 t628 _ ?side1 ?side2 A25.out).mono ?_); (case side1 => repeat (first | exact (Kd.C_below HR0_4.out HB.out) | (with_reducible refine Kd.C_alloc ?_ _) | (with_reducible refine Kd.C_drewN ?_ _) | (with_reducible refine Kd.C_drew ?_))); (case side2 => exact HC0_4.out); rintro e w35 ⟨rfl, hb⟩; have n0_ := Aside0.mk (Kd.R_below (by (with_reducible repeat (first | apply Kd.R_alloc | apply Kd.R_drewN | apply Kd.R_drew)); exact HO624.out) hb); have n1_ := Aside0.mk (Kd.R_below (by (with_reducible repeat (first | apply Kd.R_alloc | apply Kd.R_drewN | apply Kd.R_drew)); exact HO627.out) hb); have n2_ := Aside0.mk (blk_below (g := gb618) (o := .cells #[.bool a0_0, .int .i64 a0_1, .bool a0_2, .int .i64 a0_3, .slice A0_4 l0_4.length c0_4] 24 (0, 0)) (by (with_reducible repeat (first | refine blk_drewN ?_ _ | refine blk_drew ?_ | refine blk_alloc ?_ _)); exact BK618.out) hb); have n3_ := Aside0.mk (below_step (by repeat (first | (with_reducible first | exact HB.out | apply below_alloc | apply pw_below_drewN | apply below_drew1 | refine below_set ?_ GE618.out) | exact HB.out)) hb); clear HO624; clear HO627; clear BK618; clear HB; have HO624 := n0_; have HO627 := n1_; have BK618 := n2_; have HB := n3_; clear n0_ n1_ n2_ n3_; (try clear hb); (try clear hb2); (try clear hk); (try clear hi); have hcz36_0 : w35.cell? ⟨gb618, 0, none⟩ = some (.bool a0_0) := (blk_cell BK618.out 0).trans rfl; have hcz36_1 : w35.cell? ⟨gb618, 1, none⟩ = some (.int .i64 a0_1) := (blk_cell BK618.out 1).trans rfl; have hcz36_2 : w35.cell? ⟨gb618, 2, none⟩ = some (.bool a0_2) := (blk_cell BK618.out 2).trans rfl; have hcz36_3 : w35.cell? ⟨gb618, 3, none⟩ = some (.int .i64 a0_3) := (blk_cell BK618.out 3).trans rfl; have hcz36_4 : w35.cell? ⟨gb618, 4, none⟩ = some (.slice A0_4 l0_4.length c0_4) := (blk_cell BK618.out 4).trans rfl; have hfz36_0 := blk_frozen BK618.out 0; have hfz36_1 := blk_frozen BK618.out 1; have hfz36_2 := blk_frozen BK618.out 2; have hfz36_3 := blk_frozen BK618.out 3; have hfz36_4 := blk_frozen BK618.out 4) | (go_at_call 18; (with_reducible refine (wire_Most.calls a0_0 (l0_4.length : Int) t629 _ A31.out).mono ?_); rintro e w' ⟨rfl, ⟨nd, rfl⟩⟩; (try first | exact ⟨rfl, _, World.drewN_drewN _ _ _⟩ | exact ⟨rfl, _, Eq.trans (World.drewN_drewN _ _ _) (congrArg (World.drewN _) (Nat.add_assoc _ _ _))⟩)))
                repeat (go_quiet (first | (go_at_call 16; (with_reducible refine (wire_Length.calls a0_0 a0_1 a0_2 a0_3 _ _ l0_4 t628 _ ?side1 ?side2 A25.out).mono ?_); (case side1 => repeat (first | exact (Kd.C_below HR0_4.out HB.out) | (with_reducible refine Kd.C_alloc ?_ _) | (with_reducible refine Kd.C_drewN ?_ _) | (with_reducible refine Kd.C_drew ?_))); (case side2 => exact HC0_4.out); rintro e w35 ⟨rfl, hb⟩; have n0_ := Aside0.mk (Kd.R_below (by (with_reducible repeat (first | apply Kd.R_alloc | apply Kd.R_drewN | apply Kd.R_drew)); exact HO624.out) hb); have n1_ := Aside0.mk (Kd.R_below (by (with_reducible repeat (first | apply Kd.R_alloc | apply Kd.R_drewN | apply Kd.R_drew)); exact HO627.out) hb); have n2_ := Aside0.mk (blk_below (g := gb618) (o := .cells #[.bool a0_0, .int .i64 a0_1, .bool a0_2, .int .i64 a0_3, .slice A0_4 l0_4.length c0_4] 24 (0, 0)) (by (with_reducible repeat (first | refine blk_drewN ?_ _ | refine blk_drew ?_ | refine blk_alloc ?_ _)); exact BK618.out) hb); have n3_ := Aside0.mk (below_step (by repeat (first | (with_reducible first | exact HB.out | apply below_alloc | apply pw_below_drewN | apply below_drew1 | refine below_set ?_ GE618.out) | exact HB.out)) hb); clear HO624; clear HO627; clear BK618; clear HB; have HO624 := n0_; have HO627 := n1_; have BK618 := n2_; have HB := n3_; clear n0_ n1_ n2_ n3_; (try clear hb); (try clear hb2); (try clear hk); (try clear hi); have hcz36_0 : w35.cell? ⟨gb618, 0, none⟩ = some (.bool a0_0) := (blk_cell BK618.out 0).trans rfl; have hcz36_1 : w35.cell? ⟨gb618, 1, none⟩ = some (.int .i64 a0_1) := (blk_cell BK618.out 1).trans rfl; have hcz36_2 : w35.cell? ⟨gb618, 2, none⟩ = some (.bool a0_2) := (blk_cell BK618.out 2).trans rfl; have hcz36_3 : w35.cell? ⟨gb618, 3, none⟩ = some (.int .i64 a0_3) := (blk_cell BK618.out 3).trans rfl; have hcz36_4 : w35.cell? ⟨gb618, 4, none⟩ = some (.slice A0_4 l0_4.length c0_4) := (blk_cell BK618.out 4).trans rfl; have hfz36_0 := blk_frozen BK618.out 0; have hfz36_1 := blk_frozen BK618.out 1; have hfz36_2 := blk_frozen BK618.out 2; have hfz36_3 := blk_frozen BK618.out 3; have hfz36_4 := blk_frozen BK618.out 4) | (go_at_call 18; (with_reducible refine (wire_Most.calls a0_0 (l0_4.length : Int) t629 _ A31.out).mono ?_); rintro e w' ⟨rfl, ⟨nd, rfl⟩⟩; (try first | exact ⟨rfl, _, World.drewN_drewN _ _ _⟩ | exact ⟨rfl, _, Eq.trans (World.drewN_drewN _ _ _) (congrArg (World.drewN _) (Nat.add_assoc _ _ _))⟩))); try go_wp2_with (first | (go_at_call 16; (with_reducible refine (wire_Length.calls a0_0 a0_1 a0_2 a0_3 _ _ l0_4 t628 _ ?side1 ?side2 A25.out).mono ?_); (case side1 => repeat (first | exact (Kd.C_below HR0_4.out HB.out) | (with_reducible refine Kd.C_alloc ?_ _) | (with_reducible refine Kd.C_drewN ?_ _) | (with_reducible refine Kd.C_drew ?_))); (case side2 => exact HC0_4.out); rintro e w35 ⟨rfl, hb⟩; have n0_ := Aside0.mk (Kd.R_below (by (with_reducible repeat (first | apply Kd.R_alloc | apply Kd.R_drewN | apply Kd.R_drew)); exact HO624.out) hb); have n1_ := Aside0.mk (Kd.R_below (by (with_reducible repeat (first | apply Kd.R_alloc | apply Kd.R_drewN | apply Kd.R_drew)); exact HO627.out) hb); have n2_ := Aside0.mk (blk_below (g := gb618) (o := .cells #[.bool a0_0, .int .i64 a0_1, .bool a0_2, .int .i64 a0_3, .slice A0_4 l0_4.length c0_4] 24 (0, 0)) (by (with_reducible repeat (first | refine blk_drewN ?_ _ | refine blk_drew ?_ | refine blk_alloc ?_ _)); exact BK618.out) hb); have n3_ := Aside0.mk (below_step (by repeat (first | (with_reducible first | exact HB.out | apply below_alloc | apply pw_below_drewN | apply below_drew1 | refine below_set ?_ GE618.out) | exact HB.out)) hb); clear HO624; clear HO627; clear BK618; clear HB; have HO624 := n0_; have HO627 := n1_; have BK618 := n2_; have HB := n3_; clear n0_ n1_ n2_ n3_; (try clear hb); (try clear hb2); (try clear hk); (try clear hi); have hcz36_0 : w35.cell? ⟨gb618, 0, none⟩ = some (.bool a0_0) := (blk_cell BK618.out 0).trans rfl; have hcz36_1 : w35.cell? ⟨gb618, 1, none⟩ = some (.int .i64 a0_1) := (blk_cell BK618.out 1).trans rfl; have hcz36_2 : w35.cell? ⟨gb618, 2, none⟩ = some (.bool a0_2) := (blk_cell BK618.out 2).trans rfl; have hcz36_3 : w35.cell? ⟨gb618, 3, none⟩ = some (.int .i64 a0_3) := (blk_cell BK618.out 3).trans rfl; have hcz36_4 : w35.cell? ⟨gb618, 4, none⟩ = some (.slice A0_4 l0_4.length c0_4) := (blk_cell BK618.out 4).trans rfl; have hfz36_0 := blk_frozen BK618.out 0; have hfz36_1 := blk_frozen BK618.out 1; have hfz36_2 := blk_frozen BK618.out 2; have hfz36_3 := blk_frozen BK618.out 3; have hfz36_4 := blk_frozen BK618.out 4) | (go_at_call 18; (with_reducible refine (wire_Most.calls a0_0 (l0_4.length : Int) t629 _ A31.out).mono ?_); rintro e w' ⟨rfl, ⟨nd, rfl⟩⟩; (try first | exact ⟨rfl, _, World.drewN_drewN _ _ _⟩ | exact ⟨rfl, _, Eq.trans (World.drewN_drewN _ _ _) (congrArg (World.drewN _) (Nat.add_assoc _ _ _))⟩))))
                go_meet
                case rel => exact ⟨_, (true), (by first | rfl | (simp; done) | (simp [*]; done)), H', ⟨by have := HJ2.out; first | omega | exact Nat.le_refl _⟩, ⟨by (with_reducible repeat (first | apply Kd.R_alloc | apply Kd.R_drewN | apply Kd.R_drew)); exact Kd.R_mono HO624.out (fun _ hk => trivial)⟩, ⟨by (with_reducible repeat (first | refine blk_drewN ?_ _ | refine blk_drew ?_ | refine blk_alloc ?_ _)); exact BK618.out⟩, ⟨by repeat (first | (with_reducible first | exact HB.out | apply below_alloc | apply pw_below_drewN | apply below_drew1 | refine below_set ?_ GE618.out) | exact HB.out)⟩⟩
              · rw [if_neg c32] at H
                have c32b0 : decide (t629 < (t622.length : Int)) = false := decide_eq_false c32
                clear c32
                replace H := Option.bind_eq_some_iff.mp H
                obtain ⟨t630, A370, H⟩ := H
                replace H : (phaetonlaw05_WireRuns.j1 kj2 t619 t622 (!t630)) = some r := H
                have A37 := Aside0.mk A370
                clear A370
                have H' := Aside0.mk H
                clear H
                obtain ⟨Ao38, co38, eo38⟩ := Kd.R_slice HO624.out
                subst eo38
                have hcz39_0 : w23.cell? ⟨gb618, 0, none⟩ = some (.bool a0_0) := (blk_cell BK618.out 0).trans rfl
                have hcz39_1 : w23.cell? ⟨gb618, 1, none⟩ = some (.int .i64 a0_1) := (blk_cell BK618.out 1).trans rfl
                have hcz39_2 : w23.cell? ⟨gb618, 2, none⟩ = some (.bool a0_2) := (blk_cell BK618.out 2).trans rfl
                have hcz39_3 : w23.cell? ⟨gb618, 3, none⟩ = some (.int .i64 a0_3) := (blk_cell BK618.out 3).trans rfl
                have hcz39_4 : w23.cell? ⟨gb618, 4, none⟩ = some (.slice A0_4 l0_4.length c0_4) := (blk_cell BK618.out 4).trans rfl
                have hfz39_0 := blk_frozen BK618.out 0
                have hfz39_1 := blk_frozen BK618.out 1
                have hfz39_2 := blk_frozen BK618.out 2
                have hfz39_3 := blk_frozen BK618.out 3
                have hfz39_4 := blk_frozen BK618.out 4
                go_wp2_with (first | ((with_reducible refine gate_store (t := 24) (p := 1) rfl ?_); refine HW.store_box2 rfl rfl 24 _ _ rfl rfl rfl BK618.out rfl (by kernel_rfl) (by intro q hq; simp only [List.mem_cons, List.not_mem_nil, or_false] at hq; rcases hq with rfl | rfl | rfl | rfl | rfl <;> rfl) ?_; intro w1_ hw1_ hk1_; simp only [List.toList_toArray, World.setCells, Nat.zero_add, Nat.reduceAdd] at hw1_; subst hw1_; have hcb618_0 := (blk_cell hk1_ 0).trans rfl; have hfb618_0 := blk_frozen hk1_ 0; have hcb618_1 := (blk_cell hk1_ 1).trans rfl; have hfb618_1 := blk_frozen hk1_ 1; have hcb618_2 := (blk_cell hk1_ 2).trans rfl; have hfb618_2 := blk_frozen hk1_ 2; have hcb618_3 := (blk_cell hk1_ 3).trans rfl; have hfb618_3 := blk_frozen hk1_ 3; have hcb618_4 := (blk_cell hk1_ 4).trans rfl; have hfb618_4 := blk_frozen hk1_ 4; clear hk1_) | (go_at_call 16; (with_reducible refine (wire_Length.calls a0_0 a0_1 a0_2 a0_3 _ _ l0_4 t628 _ ?side1 ?side2 A25.out).mono ?_); (case side1 => repeat (first | exact (Kd.C_below HR0_4.out HB.out) | (with_reducible refine Kd.C_alloc ?_ _) | (with_reducible refine Kd.C_drewN ?_ _) | (with_reducible refine Kd.C_drew ?_))); (case side2 => exact HC0_4.out); rintro e w40 ⟨rfl, hb⟩; have n0_ := Aside0.mk (Kd.R_below (by (with_reducible repeat (first | apply Kd.R_alloc | apply Kd.R_drewN | apply Kd.R_drew)); exact HO624.out) hb); have n1_ := Aside0.mk (Kd.R_below (by (with_reducible repeat (first | apply Kd.R_alloc | apply Kd.R_drewN | apply Kd.R_drew)); exact HO627.out) hb); have n2_ := Aside0.mk (blk_below (g := gb618) (o := .cells #[.bool a0_0, .int .i64 a0_1, .bool a0_2, .int .i64 a0_3, .slice A0_4 l0_4.length c0_4] 24 (0, 0)) (by (with_reducible repeat (first | refine blk_drewN ?_ _ | refine blk_drew ?_ | refine blk_alloc ?_ _)); exact BK618.out) hb); have n3_ := Aside0.mk (below_step (by repeat (first | (with_reducible first | exact HB.out | apply below_alloc | apply pw_below_drewN | apply below_drew1 | refine below_set ?_ GE618.out) | exact HB.out)) hb); clear HO624; clear HO627; clear BK618; clear HB; have HO624 := n0_; have HO627 := n1_; have BK618 := n2_; have HB := n3_; clear n0_ n1_ n2_ n3_; (try clear hb); (try clear hb2); (try clear hk); (try clear hi); have hcz41_0 : w40.cell? ⟨gb618, 0, none⟩ = some (.bool a0_0) := (blk_cell BK618.out 0).trans rfl; have hcz41_1 : w40.cell? ⟨gb618, 1, none⟩ = some (.int .i64 a0_1) := (blk_cell BK618.out 1).trans rfl; have hcz41_2 : w40.cell? ⟨gb618, 2, none⟩ = some (.bool a0_2) := (blk_cell BK618.out 2).trans rfl; have hcz41_3 : w40.cell? ⟨gb618, 3, none⟩ = some (.int .i64 a0_3) := (blk_cell BK618.out 3).trans rfl; have hcz41_4 : w40.cell? ⟨gb618, 4, none⟩ = some (.slice A0_4 l0_4.length c0_4) := (blk_cell BK618.out 4).trans rfl; have hfz41_0 := blk_frozen BK618.out 0; have hfz41_1 := blk_frozen BK618.out 1; have hfz41_2 := blk_frozen BK618.out 2; have hfz41_3 := blk_frozen BK618.out 3; have hfz41_4 := blk_frozen BK618.out 4) | (go_at_call 18; (with_reducible refine (wire_Most.calls a0_0 (l0_4.length : Int) t629 _ A31.out).mono ?_); rintro e w' ⟨rfl, ⟨nd, rfl⟩⟩; (try first | exact ⟨rfl, _, World.drewN_drewN _ _ _⟩ | exact ⟨rfl, _, Eq.trans (World.drewN_drewN _ _ _) (congrArg (World.drewN _) (Nat.add_assoc _ _ _))⟩)) | (go_at_call 20; (with_reducible refine (phaetonref01_Right.calls kj2 _ _ t622 t630 _ ?side1 ?side2 A37.out).mono ?_); (case side1 => repeat (first | exact (Kd.R_reads' HO624.out).2.2 | (with_reducible refine Kd.C_alloc ?_ _) | (with_reducible refine Kd.C_drewN ?_ _) | (with_reducible refine Kd.C_drew ?_))); (case side2 => exact (Kd.R_reads' HO624.out).2.1); rintro e w' ⟨rfl, ⟨nd, rfl⟩⟩; (try first | exact ⟨rfl, _, World.drewN_drewN _ _ _⟩ | exact ⟨rfl, _, Eq.trans (World.drewN_drewN _ _ _) (congrArg (World.drewN _) (Nat.add_assoc _ _ _))⟩)))
                repeat (go_quiet (first | (go_at_call 16; (with_reducible refine (wire_Length.calls a0_0 a0_1 a0_2 a0_3 _ _ l0_4 t628 _ ?side1 ?side2 A25.out).mono ?_); (case side1 => repeat (first | exact (Kd.C_below HR0_4.out HB.out) | (with_reducible refine Kd.C_alloc ?_ _) | (with_reducible refine Kd.C_drewN ?_ _) | (with_reducible refine Kd.C_drew ?_))); (case side2 => exact HC0_4.out); rintro e w40 ⟨rfl, hb⟩; have n0_ := Aside0.mk (Kd.R_below (by (with_reducible repeat (first | apply Kd.R_alloc | apply Kd.R_drewN | apply Kd.R_drew)); exact HO624.out) hb); have n1_ := Aside0.mk (Kd.R_below (by (with_reducible repeat (first | apply Kd.R_alloc | apply Kd.R_drewN | apply Kd.R_drew)); exact HO627.out) hb); have n2_ := Aside0.mk (blk_below (g := gb618) (o := .cells #[.bool a0_0, .int .i64 a0_1, .bool a0_2, .int .i64 a0_3, .slice A0_4 l0_4.length c0_4] 24 (0, 0)) (by (with_reducible repeat (first | refine blk_drewN ?_ _ | refine blk_drew ?_ | refine blk_alloc ?_ _)); exact BK618.out) hb); have n3_ := Aside0.mk (below_step (by repeat (first | (with_reducible first | exact HB.out | apply below_alloc | apply pw_below_drewN | apply below_drew1 | refine below_set ?_ GE618.out) | exact HB.out)) hb); clear HO624; clear HO627; clear BK618; clear HB; have HO624 := n0_; have HO627 := n1_; have BK618 := n2_; have HB := n3_; clear n0_ n1_ n2_ n3_; (try clear hb); (try clear hb2); (try clear hk); (try clear hi); have hcz41_0 : w40.cell? ⟨gb618, 0, none⟩ = some (.bool a0_0) := (blk_cell BK618.out 0).trans rfl; have hcz41_1 : w40.cell? ⟨gb618, 1, none⟩ = some (.int .i64 a0_1) := (blk_cell BK618.out 1).trans rfl; have hcz41_2 : w40.cell? ⟨gb618, 2, none⟩ = some (.bool a0_2) := (blk_cell BK618.out 2).trans rfl; have hcz41_3 : w40.cell? ⟨gb618, 3, none⟩ = some (.int .i64 a0_3) := (blk_cell BK618.out 3).trans rfl; have hcz41_4 : w40.cell? ⟨gb618, 4, none⟩ = some (.slice A0_4 l0_4.length c0_4) := (blk_cell BK618.out 4).trans rfl; have hfz41_0 := blk_frozen BK618.out 0; have hfz41_1 := blk_frozen BK618.out 1; have hfz41_2 := blk_frozen BK618.out 2; have hfz41_3 := blk_frozen BK618.out 3; have hfz41_4 := blk_frozen BK618.out 4) | (go_at_call 18; (with_reducible refine (wire_Most.calls a0_0 (l0_4.length : Int) t629 _ A31.out).mono ?_); rintro e w' ⟨rfl, ⟨nd, rfl⟩⟩; (try first | exact ⟨rfl, _, World.drewN_drewN _ _ _⟩ | exact ⟨rfl, _, Eq.trans (World.drewN_drewN _ _ _) (congrArg (World.drewN _) (Nat.add_assoc _ _ _))⟩)) | (go_at_call 20; (with_reducible refine (phaetonref01_Right.calls kj2 _ _ t622 t630 _ ?side1 ?side2 A37.out).mono ?_); (case side1 => repeat (first | exact (Kd.R_reads' HO624.out).2.2 | (with_reducible refine Kd.C_alloc ?_ _) | (with_reducible refine Kd.C_drewN ?_ _) | (with_reducible refine Kd.C_drew ?_))); (case side2 => exact (Kd.R_reads' HO624.out).2.1); rintro e w' ⟨rfl, ⟨nd, rfl⟩⟩; (try first | exact ⟨rfl, _, World.drewN_drewN _ _ _⟩ | exact ⟨rfl, _, Eq.trans (World.drewN_drewN _ _ _) (congrArg (World.drewN _) (Nat.add_assoc _ _ _))⟩))); try go_wp2_with (first | (go_at_call 16; (with_reducible refine (wire_Length.calls a0_0 a0_1 a0_2 a0_3 _ _ l0_4 t628 _ ?side1 ?side2 A25.out).mono ?_); (case side1 => repeat (first | exact (Kd.C_below HR0_4.out HB.out) | (with_reducible refine Kd.C_alloc ?_ _) | (with_reducible refine Kd.C_drewN ?_ _) | (with_reducible refine Kd.C_drew ?_))); (case side2 => exact HC0_4.out); rintro e w40 ⟨rfl, hb⟩; have n0_ := Aside0.mk (Kd.R_below (by (with_reducible repeat (first | apply Kd.R_alloc | apply Kd.R_drewN | apply Kd.R_drew)); exact HO624.out) hb); have n1_ := Aside0.mk (Kd.R_below (by (with_reducible repeat (first | apply Kd.R_alloc | apply Kd.R_drewN | apply Kd.R_drew)); exact HO627.out) hb); have n2_ := Aside0.mk (blk_below (g := gb618) (o := .cells #[.bool a0_0, .int .i64 a0_1, .bool a0_2, .int .i64 a0_3, .slice A0_4 l0_4.length c0_4] 24 (0, 0)) (by (with_reducible repeat (first | refine blk_drewN ?_ _ | refine blk_drew ?_ | refine blk_alloc ?_ _)); exact BK618.out) hb); have n3_ := Aside0.mk (below_step (by repeat (first | (with_reducible first | exact HB.out | apply below_alloc | apply pw_below_drewN | apply below_drew1 | refine below_set ?_ GE618.out) | exact HB.out)) hb); clear HO624; clear HO627; clear BK618; clear HB; have HO624 := n0_; have HO627 := n1_; have BK618 := n2_; have HB := n3_; clear n0_ n1_ n2_ n3_; (try clear hb); (try clear hb2); (try clear hk); (try clear hi); have hcz41_0 : w40.cell? ⟨gb618, 0, none⟩ = some (.bool a0_0) := (blk_cell BK618.out 0).trans rfl; have hcz41_1 : w40.cell? ⟨gb618, 1, none⟩ = some (.int .i64 a0_1) := (blk_cell BK618.out 1).trans rfl; have hcz41_2 : w40.cell? ⟨gb618, 2, none⟩ = some (.bool a0_2) := (blk_cell BK618.out 2).trans rfl; have hcz41_3 : w40.cell? ⟨gb618, 3, none⟩ = some (.int .i64 a0_3) := (blk_cell BK618.out 3).trans rfl; have hcz41_4 : w40.cell? ⟨gb618, 4, none⟩ = some (.slice A0_4 l0_4.length c0_4) := (blk_cell BK618.out 4).trans rfl; have hfz41_0 := blk_frozen BK618.out 0; have hfz41_1 := blk_frozen BK618.out 1; have hfz41_2 := blk_frozen BK618.out 2; have hfz41_3 := blk_frozen BK618.out 3; have hfz41_4 := blk_frozen BK618.out 4) | (go_at_call 18; (with_reducible refine (wire_Most.calls a0_0 (l0_4.length : Int) t629 _ A31.out).mono ?_); rintro e w' ⟨rfl, ⟨nd, rfl⟩⟩; (try first | exact ⟨rfl, _, World.drewN_drewN _ _ _⟩ | exact ⟨rfl, _, Eq.trans (World.drewN_drewN _ _ _) (congrArg (World.drewN _) (Nat.add_assoc _ _ _))⟩)) | (go_at_call 20; (with_reducible refine (phaetonref01_Right.calls kj2 _ _ t622 t630 _ ?side1 ?side2 A37.out).mono ?_); (case side1 => repeat (first | exact (Kd.R_reads' HO624.out).2.2 | (with_reducible refine Kd.C_alloc ?_ _) | (with_reducible refine Kd.C_drewN ?_ _) | (with_reducible refine Kd.C_drew ?_))); (case side2 => exact (Kd.R_reads' HO624.out).2.1); rintro e w' ⟨rfl, ⟨nd, rfl⟩⟩; (try first | exact ⟨rfl, _, World.drewN_drewN _ _ _⟩ | exact ⟨rfl, _, Eq.trans (World.drewN_drewN _ _ _) (congrArg (World.drewN _) (Nat.add_assoc _ _ _))⟩))))
                go_meet
                case rel => exact ⟨_, (!t630), (by first | rfl | (simp; done) | (simp [*]; done)), H', ⟨by have := HJ2.out; first | omega | exact Nat.le_refl _⟩, ⟨by (with_reducible repeat (first | apply Kd.R_alloc | apply Kd.R_drewN | apply Kd.R_drew)); exact Kd.R_mono HO624.out (fun _ hk => trivial)⟩, ⟨by (with_reducible repeat (first | refine blk_drewN ?_ _ | refine blk_drew ?_ | refine blk_alloc ?_ _)); exact BK618.out⟩, ⟨by repeat (first | (with_reducible first | exact HB.out | apply below_alloc | apply pw_below_drewN | apply below_drew1 | refine below_set ?_ GE618.out) | exact HB.out)⟩⟩
          · rw [if_neg c26] at H
            have c26b0 : ((t622.length : Int) == t628) = false := beq_eq_false_iff_ne.mpr c26
            have c26b1 : ((t622.length : Int) != t628) = true := bne_iff_ne.mpr c26
            (first | rw [c26b0] | (simp only [i64_w, i32_w]; rw [c26b0]) | skip)
            have H' := Aside0.mk H
            clear H
            obtain ⟨Ao42, co42, eo42⟩ := Kd.R_slice HO624.out
            subst eo42
            have hcz43_0 : w23.cell? ⟨gb618, 0, none⟩ = some (.bool a0_0) := (blk_cell BK618.out 0).trans rfl
            have hcz43_1 : w23.cell? ⟨gb618, 1, none⟩ = some (.int .i64 a0_1) := (blk_cell BK618.out 1).trans rfl
            have hcz43_2 : w23.cell? ⟨gb618, 2, none⟩ = some (.bool a0_2) := (blk_cell BK618.out 2).trans rfl
            have hcz43_3 : w23.cell? ⟨gb618, 3, none⟩ = some (.int .i64 a0_3) := (blk_cell BK618.out 3).trans rfl
            have hcz43_4 : w23.cell? ⟨gb618, 4, none⟩ = some (.slice A0_4 l0_4.length c0_4) := (blk_cell BK618.out 4).trans rfl
            have hfz43_0 := blk_frozen BK618.out 0
            have hfz43_1 := blk_frozen BK618.out 1
            have hfz43_2 := blk_frozen BK618.out 2
            have hfz43_3 := blk_frozen BK618.out 3
            have hfz43_4 := blk_frozen BK618.out 4
            go_wp2_with (first | ((with_reducible refine gate_store (t := 24) (p := 1) rfl ?_); refine HW.store_box2 rfl rfl 24 _ _ rfl rfl rfl BK618.out rfl (by kernel_rfl) (by intro q hq; simp only [List.mem_cons, List.not_mem_nil, or_false] at hq; rcases hq with rfl | rfl | rfl | rfl | rfl <;> rfl) ?_; intro w1_ hw1_ hk1_; simp only [List.toList_toArray, World.setCells, Nat.zero_add, Nat.reduceAdd] at hw1_; subst hw1_; have hcb618_0 := (blk_cell hk1_ 0).trans rfl; have hfb618_0 := blk_frozen hk1_ 0; have hcb618_1 := (blk_cell hk1_ 1).trans rfl; have hfb618_1 := blk_frozen hk1_ 1; have hcb618_2 := (blk_cell hk1_ 2).trans rfl; have hfb618_2 := blk_frozen hk1_ 2; have hcb618_3 := (blk_cell hk1_ 3).trans rfl; have hfb618_3 := blk_frozen hk1_ 3; have hcb618_4 := (blk_cell hk1_ 4).trans rfl; have hfb618_4 := blk_frozen hk1_ 4; clear hk1_) | (go_at_call 16; (with_reducible refine (wire_Length.calls a0_0 a0_1 a0_2 a0_3 _ _ l0_4 t628 _ ?side1 ?side2 A25.out).mono ?_); (case side1 => repeat (first | exact (Kd.C_below HR0_4.out HB.out) | (with_reducible refine Kd.C_alloc ?_ _) | (with_reducible refine Kd.C_drewN ?_ _) | (with_reducible refine Kd.C_drew ?_))); (case side2 => exact HC0_4.out); rintro e w44 ⟨rfl, hb⟩; have n0_ := Aside0.mk (Kd.R_below (by (with_reducible repeat (first | apply Kd.R_alloc | apply Kd.R_drewN | apply Kd.R_drew)); exact HO624.out) hb); have n1_ := Aside0.mk (Kd.R_below (by (with_reducible repeat (first | apply Kd.R_alloc | apply Kd.R_drewN | apply Kd.R_drew)); exact HO627.out) hb); have n2_ := Aside0.mk (blk_below (g := gb618) (o := .cells #[.bool a0_0, .int .i64 a0_1, .bool a0_2, .int .i64 a0_3, .slice A0_4 l0_4.length c0_4] 24 (0, 0)) (by (with_reducible repeat (first | refine blk_drewN ?_ _ | refine blk_drew ?_ | refine blk_alloc ?_ _)); exact BK618.out) hb); have n3_ := Aside0.mk (below_step (by repeat (first | (with_reducible first | exact HB.out | apply below_alloc | apply pw_below_drewN | apply below_drew1 | refine below_set ?_ GE618.out) | exact HB.out)) hb); clear HO624; clear HO627; clear BK618; clear HB; have HO624 := n0_; have HO627 := n1_; have BK618 := n2_; have HB := n3_; clear n0_ n1_ n2_ n3_; (try clear hb); (try clear hb2); (try clear hk); (try clear hi)))
            repeat (go_quiet (first | (go_at_call 16; (with_reducible refine (wire_Length.calls a0_0 a0_1 a0_2 a0_3 _ _ l0_4 t628 _ ?side1 ?side2 A25.out).mono ?_); (case side1 => repeat (first | exact (Kd.C_below HR0_4.out HB.out) | (with_reducible refine Kd.C_alloc ?_ _) | (with_reducible refine Kd.C_drewN ?_ _) | (with_reducible refine Kd.C_drew ?_))); (case side2 => exact HC0_4.out); rintro e w44 ⟨rfl, hb⟩; have n0_ := Aside0.mk (Kd.R_below (by (with_reducible repeat (first | apply Kd.R_alloc | apply Kd.R_drewN | apply Kd.R_drew)); exact HO624.out) hb); have n1_ := Aside0.mk (Kd.R_below (by (with_reducible repeat (first | apply Kd.R_alloc | apply Kd.R_drewN | apply Kd.R_drew)); exact HO627.out) hb); have n2_ := Aside0.mk (blk_below (g := gb618) (o := .cells #[.bool a0_0, .int .i64 a0_1, .bool a0_2, .int .i64 a0_3, .slice A0_4 l0_4.length c0_4] 24 (0, 0)) (by (with_reducible repeat (first | refine blk_drewN ?_ _ | refine blk_drew ?_ | refine blk_alloc ?_ _)); exact BK618.out) hb); have n3_ := Aside0.mk (below_step (by repeat (first | (with_reducible first | exact HB.out | apply below_alloc | apply pw_below_drewN | apply below_drew1 | refine below_set ?_ GE618.out) | exact HB.out)) hb); clear HO624; clear HO627; clear BK618; clear HB; have HO624 := n0_; have HO627 := n1_; have BK618 := n2_; have HB := n3_; clear n0_ n1_ n2_ n3_; (try clear hb); (try clear hb2); (try clear hk); (try clear hi))); try go_wp2_with (first | (go_at_call 16; (with_reducible refine (wire_Length.calls a0_0 a0_1 a0_2 a0_3 _ _ l0_4 t628 _ ?side1 ?side2 A25.out).mono ?_); (case side1 => repeat (first | exact (Kd.C_below HR0_4.out HB.out) | (with_reducible refine Kd.C_alloc ?_ _) | (with_reducible refine Kd.C_drewN ?_ _) | (with_reducible refine Kd.C_drew ?_))); (case side2 => exact HC0_4.out); rintro e w44 ⟨rfl, hb⟩; have n0_ := Aside0.mk (Kd.R_below (by (with_reducible repeat (first | apply Kd.R_alloc | apply Kd.R_drewN | apply Kd.R_drew)); exact HO624.out) hb); have n1_ := Aside0.mk (Kd.R_below (by (with_reducible repeat (first | apply Kd.R_alloc | apply Kd.R_drewN | apply Kd.R_drew)); exact HO627.out) hb); have n2_ := Aside0.mk (blk_below (g := gb618) (o := .cells #[.bool a0_0, .int .i64 a0_1, .bool a0_2, .int .i64 a0_3, .slice A0_4 l0_4.length c0_4] 24 (0, 0)) (by (with_reducible repeat (first | refine blk_drewN ?_ _ | refine blk_drew ?_ | refine blk_alloc ?_ _)); exact BK618.out) hb); have n3_ := Aside0.mk (below_step (by repeat (first | (with_reducible first | exact HB.out | apply below_alloc | apply pw_below_drewN | apply below_drew1 | refine below_set ?_ GE618.out) | exact HB.out)) hb); clear HO624; clear HO627; clear BK618; clear HB; have HO624 := n0_; have HO627 := n1_; have BK618 := n2_; have HB := n3_; clear n0_ n1_ n2_ n3_; (try clear hb); (try clear hb2); (try clear hk); (try clear hi))))
            go_meet
            case rel => exact ⟨_, (true), (by first | rfl | (simp; done) | (simp [*]; done)), H', ⟨by have := HJ2.out; first | omega | exact Nat.le_refl _⟩, ⟨by (with_reducible repeat (first | apply Kd.R_alloc | apply Kd.R_drewN | apply Kd.R_drew)); exact Kd.R_mono HO624.out (fun _ hk => trivial)⟩, ⟨by (with_reducible repeat (first | refine blk_drewN ?_ _ | refine blk_drew ?_ | refine blk_alloc ?_ _)); exact BK618.out⟩, ⟨by repeat (first | (with_reducible first | exact HB.out | apply below_alloc | apply pw_below_drewN | apply below_drew1 | refine below_set ?_ GE618.out) | exact HB.out)⟩⟩
        case rest =>
          clear HC19
          try clear c1
          try clear c2
          try clear p2
          try clear c3
          try clear c6
          try clear p6
          try clear c7
          try clear c15
          try clear c16
          try clear c26
          try clear c26b0
          try clear c26b1
          try clear c27
          try clear c27b0
          try clear c32
          try clear c32b0
          try clear hcz11_0
          try clear hcz11_1
          try clear hcz11_2
          try clear hcz11_3
          try clear hcz11_4
          try clear hcz13_0
          try clear hcz13_1
          try clear hcz13_2
          try clear hcz13_3
          try clear hcz13_4
          try clear hcz20_0
          try clear hcz20_1
          try clear hcz20_2
          try clear hcz20_3
          try clear hcz20_4
          try clear hcz22_0
          try clear hcz22_1
          try clear hcz22_2
          try clear hcz22_3
          try clear hcz22_4
          try clear hcz29_0
          try clear hcz29_1
          try clear hcz29_2
          try clear hcz29_3
          try clear hcz29_4
          try clear hcz34_0
          try clear hcz34_1
          try clear hcz34_2
          try clear hcz34_3
          try clear hcz34_4
          try clear hcz36_0
          try clear hcz36_1
          try clear hcz36_2
          try clear hcz36_3
          try clear hcz36_4
          try clear hcz39_0
          try clear hcz39_1
          try clear hcz39_2
          try clear hcz39_3
          try clear hcz39_4
          try clear hcz41_0
          try clear hcz41_1
          try clear hcz41_2
          try clear hcz41_3
          try clear hcz41_4
          try clear hcz43_0
          try clear hcz43_1
          try clear hcz43_2
          try clear hcz43_3
          try clear hcz43_4
          try clear hcz8_0
          try clear hcz8_1
          try clear hcz8_2
          try clear hcz8_3
          try clear hcz8_4
          try clear hfz11_0
          try clear hfz11_1
          try clear hfz11_2
          try clear hfz11_3
          try clear hfz11_4
          try clear hfz13_0
          try clear hfz13_1
          try clear hfz13_2
          try clear hfz13_3
          try clear hfz13_4
          try clear hfz20_0
          try clear hfz20_1
          try clear hfz20_2
          try clear hfz20_3
          try clear hfz20_4
          try clear hfz22_0
          try clear hfz22_1
          try clear hfz22_2
          try clear hfz22_3
          try clear hfz22_4
          try clear hfz29_0
          try clear hfz29_1
          try clear hfz29_2
          try clear hfz29_3
          try clear hfz29_4
          try clear hfz34_0
          try clear hfz34_1
          try clear hfz34_2
          try clear hfz34_3
          try clear hfz34_4
          try clear hfz36_0
          try clear hfz36_1
          try clear hfz36_2
          try clear hfz36_3
          try clear hfz36_4
          try clear hfz39_0
          try clear hfz39_1
          try clear hfz39_2
          try clear hfz39_3
          try clear hfz39_4
          try clear hfz41_0
          try clear hfz41_1
          try clear hfz41_2
          try clear hfz41_3
          try clear hfz41_4
          try clear hfz43_0
          try clear hfz43_1
          try clear hfz43_2
          try clear hfz43_3
          try clear hfz43_4
          try clear hfz8_0
          try clear hfz8_1
          try clear hfz8_2
          try clear hfz8_3
          try clear hfz8_4
          try clear p2
          obtain ⟨kq, x50_18, rfl, HA, HJ18, HO_4, BK618, HB⟩ := hcut
          cases kq with
          | zero => exact absurd HA.out (by simp [phaetonlaw05_WireRuns.j1])
          | succ kj18 =>
            have H := HA.out
            clear HA
            simp only [phaetonlaw05_WireRuns.j1] at H
            by_cases c45 : x50_18 = true
            · subst c45
              have H1 : (none) = some r := by rw [if_pos rfl] at H; exact H
              clear H
              have H := H1
              clear H1
              exact absurd H (by simp)
            · replace c45 := Bool.eq_false_iff.mpr c45
              subst c45
              have H1 : (phaetonlaw05_WireRuns.l0 kj18 t619 t622 0 0) = some r := by rw [if_neg (show ¬ (false = true) by decide)] at H; exact H
              clear H
              have H := H1
              clear H1
              have H' := Aside0.mk H
              clear H
              go_wp2
              repeat (go_quiet (fail); try go_wp2)
              go_loopg [6, 7] kj18 (fun kq v6 v7 w' => ∃ (x6_3 : Int) (x7_3 : Int), v6 = .int .i64 x6_3 ∧ v7 = .int .i64 x7_3 ∧ Aside0 (phaetonlaw05_WireRuns.l0 kq t619 t622 x6_3 x7_3 = some r) ∧ Aside0 (kq ≤ kj18) ∧ Aside0 (Kd.R (Kd.int .i64) 3 w' w.heap.size (fun _ => True) v623 t622) ∧ Aside0 (w'.heap[gb618]? = some (.cells #[.bool a0_0, .int .i64 a0_1, .bool a0_2, .int .i64 a0_3, (.slice A0_4 l0_4.length c0_4)] 24 (0, 0))) ∧ Aside0 (Below w.heap.size w w'))
              case atStart => exact ⟨(0), (0), (by first | rfl | (simp; done) | (simp [*]; done)), (by first | rfl | (simp; done) | (simp [*]; done)), H', ⟨Nat.le_refl _⟩, ⟨by (with_reducible repeat (first | apply Kd.R_alloc | apply Kd.R_drewN | apply Kd.R_drew)); exact HO_4.out⟩, ⟨by (with_reducible repeat (first | refine blk_drewN ?_ _ | refine blk_drew ?_ | refine blk_alloc ?_ _)); exact BK618.out⟩, ⟨by repeat (first | (with_reducible first | exact HB.out | apply below_alloc | apply pw_below_drewN | apply below_drew1 | refine below_set ?_ GE618.out) | exact HB.out)⟩⟩
              case round =>
                clear H'
                try clear c1
                try clear c2
                try clear p2
                try clear c3
                try clear c4
                try clear c6
                try clear p6
                try clear c7
                try clear c15
                try clear c16
                try clear c26
                try clear c26b0
                try clear c26b1
                try clear c27
                try clear c27b0
                try clear c32
                try clear c32b0
                try clear c45
                try clear hcz11_0
                try clear hcz11_1
                try clear hcz11_2
                try clear hcz11_3
                try clear hcz11_4
                try clear hcz13_0
                try clear hcz13_1
                try clear hcz13_2
                try clear hcz13_3
                try clear hcz13_4
                try clear hcz20_0
                try clear hcz20_1
                try clear hcz20_2
                try clear hcz20_3
                try clear hcz20_4
                try clear hcz22_0
                try clear hcz22_1
                try clear hcz22_2
                try clear hcz22_3
                try clear hcz22_4
                try clear hcz29_0
                try clear hcz29_1
                try clear hcz29_2
                try clear hcz29_3
                try clear hcz29_4
                try clear hcz34_0
                try clear hcz34_1
                try clear hcz34_2
                try clear hcz34_3
                try clear hcz34_4
                try clear hcz36_0
                try clear hcz36_1
                try clear hcz36_2
                try clear hcz36_3
                try clear hcz36_4
                try clear hcz39_0
                try clear hcz39_1
                try clear hcz39_2
                try clear hcz39_3
                try clear hcz39_4
                try clear hcz41_0
                try clear hcz41_1
                try clear hcz41_2
                try clear hcz41_3
                try clear hcz41_4
                try clear hcz43_0
                try clear hcz43_1
                try clear hcz43_2
                try clear hcz43_3
                try clear hcz43_4
                try clear hcz8_0
                try clear hcz8_1
                try clear hcz8_2
                try clear hcz8_3
                try clear hcz8_4
                try clear hfz11_0
                try clear hfz11_1
                try clear hfz11_2
                try clear hfz11_3
                try clear hfz11_4
                try clear hfz13_0
                try clear hfz13_1
                try clear hfz13_2
                try clear hfz13_3
                try clear hfz13_4
                try clear hfz20_0
                try clear hfz20_1
                try clear hfz20_2
                try clear hfz20_3
                try clear hfz20_4
                try clear hfz22_0
                try clear hfz22_1
                try clear hfz22_2
                try clear hfz22_3
                try clear hfz22_4
                try clear hfz29_0
                try clear hfz29_1
                try clear hfz29_2
                try clear hfz29_3
                try clear hfz29_4
                try clear hfz34_0
                try clear hfz34_1
                try clear hfz34_2
                try clear hfz34_3
                try clear hfz34_4
                try clear hfz36_0
                try clear hfz36_1
                try clear hfz36_2
                try clear hfz36_3
                try clear hfz36_4
                try clear hfz39_0
                try clear hfz39_1
                try clear hfz39_2
                try clear hfz39_3
                try clear hfz39_4
                try clear hfz41_0
                try clear hfz41_1
                try clear hfz41_2
                try clear hfz41_3
                try clear hfz41_4
                try clear hfz43_0
                try clear hfz43_1
                try clear hfz43_2
                try clear hfz43_3
                try clear hfz43_4
                try clear hfz8_0
                try clear hfz8_1
                try clear hfz8_2
                try clear hfz8_3
                try clear hfz8_4
                try clear p2
                try clear p6
                obtain ⟨x6_3, x7_3, rfl, rfl, HA, HK3, HO_4, BK618, HB⟩ := hrel
                cases gk with
                | zero => exact absurd HA.out (by simp [phaetonlaw05_WireRuns.l0])
                | succ k3 =>
                  have H := HA.out
                  clear HA
                  simp only [phaetonlaw05_WireRuns.l0] at H
                  by_cases c46 : x7_3 < (wrap64 ((t622.length : Int) - 10))
                  · rw [if_pos c46] at H
                    have c46b0 : decide (x7_3 < (wrap64 ((t622.length : Int) - 10))) = true := decide_eq_true c46
                    clear c46
                    have HC47 := Aside0.mk H
                    clear H
                    obtain ⟨Ao48, co48, eo48⟩ := Kd.R_slice HO_4.out
                    subst eo48
                    go_upto_region 12 with (fail)
                    repeat (go_quiet (fail); go_upto_region 12 with (fail))
                    go_cut [71] (fun v71 wc => ∃ (kq : Nat) (x71_46 : Bool), v71 = .bool x71_46 ∧ Aside0 (phaetonlaw05_WireRuns.j3 kq t619 t622 x6_3 x7_3 x71_46 = some r) ∧ Aside0 (kq ≤ k3) ∧ Aside0 (Kd.R (Kd.int .i64) 3 wc w.heap.size (fun _ => True) (.slice Ao48 t622.length co48) t622) ∧ Aside0 (wc.heap[gb618]? = some (.cells #[.bool a0_0, .int .i64 a0_1, .bool a0_2, .int .i64 a0_3, (.slice A0_4 l0_4.length c0_4)] 24 (0, 0))) ∧ Aside0 (Below w.heap.size w wc))
                    case first =>
                      have H := HC47.out
                      clear HC47
                      by_cases c49 : x7_3 > 0
                      · rw [if_pos c49] at H
                        have c49b0 : decide (0 < x7_3) = true := decide_eq_true c49
                        clear c49
                        (first | rw [c49b0] | (simp only [i64_w, i32_w]; rw [c49b0]) | skip)
                        by_cases c50 : 0 ≤ x7_3
                        · rw [if_pos c50] at H
                          have c50b0 : decide (0 ≤ x7_3) = true := decide_eq_true c50
                          clear c50
                          by_cases c51 : x7_3 < (t622.length : Int)
                          · rw [if_pos c51] at H
                            have c51b0 : decide (x7_3 < (t622.length : Int)) = true := decide_eq_true c51
                            clear c51
                            obtain ⟨ji52, hji52⟩ : ∃ j_ : Int, (wrap64 (x7_3 - 1)) = j_ := ⟨_, rfl⟩
                            replace H : (if 0 ≤ (ji52) then (if (ji52) < (t622.length : Int) then (phaetonlaw05_WireRuns.j3 k3 t619 t622 x6_3 x7_3 ((rd t622 x7_3) == (rd t622 (ji52)))) else (none)) else (none)) = some r := by first | (rw [hji52] at H; exact H) | (simp only [hji52] at H ⊢; exact H)
                            have hji52w : (IntKind.i64.wrap (x7_3 - 1)) = ji52 := (i64_w _).trans hji52
                            by_cases c53 : 0 ≤ (ji52)
                            · rw [if_pos c53] at H
                              have c53b0 : decide (0 ≤ (ji52)) = true := decide_eq_true c53
                              clear c53
                              by_cases c54 : (ji52) < (t622.length : Int)
                              · rw [if_pos c54] at H
                                have c54b0 : decide ((ji52) < (t622.length : Int)) = true := decide_eq_true c54
                                clear c54
                                have H' := Aside0.mk H
                                clear H
                                have p631 : 0 ≤ (x7_3 : Int) := of_decide_eq_true (by first | (with_reducible assumption) | assumption)
                                have q631 : x7_3 < (t622.length : Int) := of_decide_eq_true (by first | (with_reducible assumption) | assumption)
                                obtain ⟨ad631, e631, hx631_0⟩ := Kd.at_int (Kd.R_reads' HO_4.out).2.2 x7_3 p631 q631
                                cases e631
                                replace p631 := eq_true p631
                                replace q631 := eq_true q631
                                have p632 : 0 ≤ ((ji52) : Int) := of_decide_eq_true (by first | (with_reducible assumption) | assumption)
                                have q632 : (ji52) < (t622.length : Int) := of_decide_eq_true (by first | (with_reducible assumption) | assumption)
                                obtain ⟨ad632, e632, hx632_0⟩ := Kd.at_int (Kd.R_reads' HO_4.out).2.2 (ji52) p632 q632
                                obtain rfl : ad631 = ad632 := (by injection e632)
                                replace p632 := eq_true p632
                                replace q632 := eq_true q632
                                go_wp2
                                repeat (go_quiet (fail); try go_wp2)
                                go_meet
                                case rel => exact ⟨_, (((rd t622 x7_3) == (rd t622 (ji52)))), (by first | rfl | (simp; done) | (simp only [← hji52] <;> (first | rfl | simp)) | (simp [*]; done)), H', ⟨by have := HJ2.out; have := HJ18.out; have := HK3.out; first | omega | exact Nat.le_refl _⟩, ⟨by (with_reducible repeat (first | apply Kd.R_alloc | apply Kd.R_drewN | apply Kd.R_drew)); exact HO_4.out⟩, ⟨by (with_reducible repeat (first | refine blk_drewN ?_ _ | refine blk_drew ?_ | refine blk_alloc ?_ _)); exact BK618.out⟩, ⟨by repeat (first | (with_reducible first | exact HB.out | apply below_alloc | apply pw_below_drewN | apply below_drew1 | refine below_set ?_ GE618.out) | exact HB.out)⟩⟩
                              · rw [if_neg c54] at H
                                exact absurd H (by simp)
                            · rw [if_neg c53] at H
                              exact absurd H (by simp)
                          · rw [if_neg c51] at H
                            exact absurd H (by simp)
                        · rw [if_neg c50] at H
                          exact absurd H (by simp)
                      · rw [if_neg c49] at H
                        have c49b0 : decide (0 < x7_3) = false := decide_eq_false c49
                        clear c49
                        (first | rw [c49b0] | (simp only [i64_w, i32_w]; rw [c49b0]) | skip)
                        have H' := Aside0.mk H
                        clear H
                        go_wp2
                        repeat (go_quiet (fail); try go_wp2)
                        go_meet
                        case rel => exact ⟨_, (false), (by first | rfl | (simp; done) | (simp [*]; done)), H', ⟨by have := HJ2.out; have := HJ18.out; have := HK3.out; first | omega | exact Nat.le_refl _⟩, ⟨by (with_reducible repeat (first | apply Kd.R_alloc | apply Kd.R_drewN | apply Kd.R_drew)); exact HO_4.out⟩, ⟨by (with_reducible repeat (first | refine blk_drewN ?_ _ | refine blk_drew ?_ | refine blk_alloc ?_ _)); exact BK618.out⟩, ⟨by repeat (first | (with_reducible first | exact HB.out | apply below_alloc | apply pw_below_drewN | apply below_drew1 | refine below_set ?_ GE618.out) | exact HB.out)⟩⟩
                    case rest =>
                      clear HC47
                      try clear c1
                      try clear c2
                      try clear p2
                      try clear c3
                      try clear c4
                      try clear c5
                      try clear c6
                      try clear p6
                      try clear q6
                      try clear hx6
                      try clear c7
                      try clear c15
                      try clear c16
                      try clear c26
                      try clear c26b0
                      try clear c26b1
                      try clear c27
                      try clear c27b0
                      try clear c32
                      try clear c32b0
                      try clear c45
                      try clear c46
                      try clear c46b0
                      try clear c49
                      try clear c49b0
                      try clear c50
                      try clear c50b0
                      try clear c51
                      try clear c51b0
                      try clear c53
                      try clear c53b0
                      try clear c54
                      try clear c54b0
                      try clear hcz11_0
                      try clear hcz11_1
                      try clear hcz11_2
                      try clear hcz11_3
                      try clear hcz11_4
                      try clear hcz13_0
                      try clear hcz13_1
                      try clear hcz13_2
                      try clear hcz13_3
                      try clear hcz13_4
                      try clear hcz20_0
                      try clear hcz20_1
                      try clear hcz20_2
                      try clear hcz20_3
                      try clear hcz20_4
                      try clear hcz22_0
                      try clear hcz22_1
                      try clear hcz22_2
                      try clear hcz22_3
                      try clear hcz22_4
                      try clear hcz29_0
                      try clear hcz29_1
                      try clear hcz29_2
                      try clear hcz29_3
                      try clear hcz29_4
                      try clear hcz34_0
                      try clear hcz34_1
                      try clear hcz34_2
                      try clear hcz34_3
                      try clear hcz34_4
                      try clear hcz36_0
                      try clear hcz36_1
                      try clear hcz36_2
                      try clear hcz36_3
                      try clear hcz36_4
                      try clear hcz39_0
                      try clear hcz39_1
                      try clear hcz39_2
                      try clear hcz39_3
                      try clear hcz39_4
                      try clear hcz41_0
                      try clear hcz41_1
                      try clear hcz41_2
                      try clear hcz41_3
                      try clear hcz41_4
                      try clear hcz43_0
                      try clear hcz43_1
                      try clear hcz43_2
                      try clear hcz43_3
                      try clear hcz43_4
                      try clear hcz8_0
                      try clear hcz8_1
                      try clear hcz8_2
                      try clear hcz8_3
                      try clear hcz8_4
                      try clear hfz11_0
                      try clear hfz11_1
                      try clear hfz11_2
                      try clear hfz11_3
                      try clear hfz11_4
                      try clear hfz13_0
                      try clear hfz13_1
                      try clear hfz13_2
                      try clear hfz13_3
                      try clear hfz13_4
                      try clear hfz20_0
                      try clear hfz20_1
                      try clear hfz20_2
                      try clear hfz20_3
                      try clear hfz20_4
                      try clear hfz22_0
                      try clear hfz22_1
                      try clear hfz22_2
                      try clear hfz22_3
                      try clear hfz22_4
                      try clear hfz29_0
                      try clear hfz29_1
                      try clear hfz29_2
                      try clear hfz29_3
                      try clear hfz29_4
                      try clear hfz34_0
                      try clear hfz34_1
                      try clear hfz34_2
                      try clear hfz34_3
                      try clear hfz34_4
                      try clear hfz36_0
                      try clear hfz36_1
                      try clear hfz36_2
                      try clear hfz36_3
                      try clear hfz36_4
                      try clear hfz39_0
                      try clear hfz39_1
                      try clear hfz39_2
                      try clear hfz39_3
                      try clear hfz39_4
                      try clear hfz41_0
                      try clear hfz41_1
                      try clear hfz41_2
                      try clear hfz41_3
                      try clear hfz41_4
                      try clear hfz43_0
                      try clear hfz43_1
                      try clear hfz43_2
                      try clear hfz43_3
                      try clear hfz43_4
                      try clear hfz8_0
                      try clear hfz8_1
                      try clear hfz8_2
                      try clear hfz8_3
                      try clear hfz8_4
                      try clear hx631_0
                      try clear hx632_0
                      try clear p2
                      try clear p6
                      try clear p631
                      try clear p632
                      try clear q631
                      try clear q632
                      obtain ⟨kq, x71_46, rfl, HA, HJ46, HO_4, BK618, HB⟩ := hcut
                      cases kq with
                      | zero => exact absurd HA.out (by simp [phaetonlaw05_WireRuns.j3])
                      | succ kj46 =>
                        have H := HA.out
                        clear HA
                        simp only [phaetonlaw05_WireRuns.j3] at H
                        by_cases c55 : x71_46 = true
                        · subst c55
                          have H1 : (if (wrap64 (x6_3 + 1)) > 5 then (none) else (phaetonlaw05_WireRuns.l0 kj46 t619 t622 (wrap64 (x6_3 + 1)) (wrap64 (x7_3 + 1)))) = some r := by rw [if_pos rfl] at H; exact H
                          clear H
                          have H := H1
                          clear H1
                          by_cases c56 : (wrap64 (x6_3 + 1)) > 5
                          · rw [if_pos c56] at H
                            exact absurd H (by simp)
                          · rw [if_neg c56] at H
                            have c56b0 : decide (5 < (wrap64 (x6_3 + 1))) = false := decide_eq_false c56
                            clear c56
                            have H' := Aside0.mk H
                            clear H
                            go_wp2
                            repeat (go_quiet (fail); try go_wp2)
                            go_roundg kj46
                            case measure => have := HJ2.out; have := HJ18.out; have := HK3.out; have := HJ46.out; omega
                            case rel => exact ⟨(wrap64 (x6_3 + 1)), (wrap64 (x7_3 + 1)), (by first | rfl | (simp; done) | (simp [*]; done)), (by first | rfl | (simp; done) | (simp [*]; done)), H', ⟨by have := HJ2.out; have := HJ18.out; have := HK3.out; have := HJ46.out; omega⟩, ⟨by (with_reducible repeat (first | apply Kd.R_alloc | apply Kd.R_drewN | apply Kd.R_drew)); exact HO_4.out⟩, ⟨by (with_reducible repeat (first | refine blk_drewN ?_ _ | refine blk_drew ?_ | refine blk_alloc ?_ _)); exact BK618.out⟩, ⟨by repeat (first | (with_reducible first | exact HB.out | apply below_alloc | apply pw_below_drewN | apply below_drew1 | refine below_set ?_ GE618.out) | exact HB.out)⟩⟩
                        · replace c55 := Bool.eq_false_iff.mpr c55
                          subst c55
                          have H1 : (if 1 > 5 then (none) else (phaetonlaw05_WireRuns.l0 kj46 t619 t622 1 (wrap64 (x7_3 + 1)))) = some r := by rw [if_neg (show ¬ (false = true) by decide)] at H; exact H
                          clear H
                          have H := H1
                          clear H1
                          by_cases c57 : 1 > 5
                          · exact absurd c57 (by decide)
                          · rw [if_neg c57] at H
                            have c57b0 : decide (5 < 1) = false := decide_eq_false c57
                            clear c57
                            have H' := Aside0.mk H
                            clear H
                            go_wp2
                            repeat (go_quiet (fail); try go_wp2)
                            go_roundg kj46
                            case measure => have := HJ2.out; have := HJ18.out; have := HK3.out; have := HJ46.out; omega
                            case rel => exact ⟨(1), (wrap64 (x7_3 + 1)), (by first | rfl | (simp; done) | (simp [*]; done)), (by first | rfl | (simp; done) | (simp [*]; done)), H', ⟨by have := HJ2.out; have := HJ18.out; have := HK3.out; have := HJ46.out; omega⟩, ⟨by (with_reducible repeat (first | apply Kd.R_alloc | apply Kd.R_drewN | apply Kd.R_drew)); exact HO_4.out⟩, ⟨by (with_reducible repeat (first | refine blk_drewN ?_ _ | refine blk_drew ?_ | refine blk_alloc ?_ _)); exact BK618.out⟩, ⟨by repeat (first | (with_reducible first | exact HB.out | apply below_alloc | apply pw_below_drewN | apply below_drew1 | refine below_set ?_ GE618.out) | exact HB.out)⟩⟩
                  · rw [if_neg c46] at H
                    have c46b0 : decide (x7_3 < (wrap64 ((t622.length : Int) - 10))) = false := decide_eq_false c46
                    clear c46
                    have H' := Aside0.mk H
                    clear H
                    obtain ⟨Ao58, co58, eo58⟩ := Kd.R_slice HO_4.out
                    subst eo58
                    go_wp2
                    repeat (go_quiet (fail); try go_wp2)
                    go_loopg [8] k3 (fun kq v8 w' => ∃ (x8_4 : Int), v8 = .int .i64 x8_4 ∧ Aside0 (phaetonlaw05_WireRuns.l1 kq t619 t622 x8_4 = some r) ∧ Aside0 (kq ≤ k3) ∧ Aside0 (Kd.R (Kd.int .i64) 3 w' w.heap.size (fun _ => True) (.slice Ao58 t622.length co58) t622) ∧ Aside0 (w'.heap[gb618]? = some (.cells #[.bool a0_0, .int .i64 a0_1, .bool a0_2, .int .i64 a0_3, (.slice A0_4 l0_4.length c0_4)] 24 (0, 0))) ∧ Aside0 (Below w.heap.size w w'))
                    case atStart => exact ⟨(wrap64 ((t622.length : Int) - 10)), (by first | rfl | (simp; done) | (simp [*]; done)), H', ⟨Nat.le_refl _⟩, ⟨by (with_reducible repeat (first | apply Kd.R_alloc | apply Kd.R_drewN | apply Kd.R_drew)); exact HO_4.out⟩, ⟨by (with_reducible repeat (first | refine blk_drewN ?_ _ | refine blk_drew ?_ | refine blk_alloc ?_ _)); exact BK618.out⟩, ⟨by repeat (first | (with_reducible first | exact HB.out | apply below_alloc | apply pw_below_drewN | apply below_drew1 | refine below_set ?_ GE618.out) | exact HB.out)⟩⟩
                    case round =>
                      clear H'
                      try clear c1
                      try clear c2
                      try clear p2
                      try clear c3
                      try clear c4
                      try clear c5
                      try clear c6
                      try clear p6
                      try clear q6
                      try clear hx6
                      try clear c7
                      try clear c15
                      try clear c16
                      try clear c26
                      try clear c26b0
                      try clear c26b1
                      try clear c27
                      try clear c27b0
                      try clear c32
                      try clear c32b0
                      try clear c45
                      try clear c46
                      try clear c46b0
                      try clear c49
                      try clear c49b0
                      try clear c50
                      try clear c50b0
                      try clear c51
                      try clear c51b0
                      try clear c53
                      try clear c53b0
                      try clear c54
                      try clear c54b0
                      try clear c55
                      try clear c56
                      try clear c56b0
                      try clear c57
                      try clear c57b0
                      try clear hcz11_0
                      try clear hcz11_1
                      try clear hcz11_2
                      try clear hcz11_3
                      try clear hcz11_4
                      try clear hcz13_0
                      try clear hcz13_1
                      try clear hcz13_2
                      try clear hcz13_3
                      try clear hcz13_4
                      try clear hcz20_0
                      try clear hcz20_1
                      try clear hcz20_2
                      try clear hcz20_3
                      try clear hcz20_4
                      try clear hcz22_0
                      try clear hcz22_1
                      try clear hcz22_2
                      try clear hcz22_3
                      try clear hcz22_4
                      try clear hcz29_0
                      try clear hcz29_1
                      try clear hcz29_2
                      try clear hcz29_3
                      try clear hcz29_4
                      try clear hcz34_0
                      try clear hcz34_1
                      try clear hcz34_2
                      try clear hcz34_3
                      try clear hcz34_4
                      try clear hcz36_0
                      try clear hcz36_1
                      try clear hcz36_2
                      try clear hcz36_3
                      try clear hcz36_4
                      try clear hcz39_0
                      try clear hcz39_1
                      try clear hcz39_2
                      try clear hcz39_3
                      try clear hcz39_4
                      try clear hcz41_0
                      try clear hcz41_1
                      try clear hcz41_2
                      try clear hcz41_3
                      try clear hcz41_4
                      try clear hcz43_0
                      try clear hcz43_1
                      try clear hcz43_2
                      try clear hcz43_3
                      try clear hcz43_4
                      try clear hcz8_0
                      try clear hcz8_1
                      try clear hcz8_2
                      try clear hcz8_3
                      try clear hcz8_4
                      try clear hfz11_0
                      try clear hfz11_1
                      try clear hfz11_2
                      try clear hfz11_3
                      try clear hfz11_4
                      try clear hfz13_0
                      try clear hfz13_1
                      try clear hfz13_2
                      try clear hfz13_3
                      try clear hfz13_4
                      try clear hfz20_0
                      try clear hfz20_1
                      try clear hfz20_2
                      try clear hfz20_3
                      try clear hfz20_4
                      try clear hfz22_0
                      try clear hfz22_1
                      try clear hfz22_2
                      try clear hfz22_3
                      try clear hfz22_4
                      try clear hfz29_0
                      try clear hfz29_1
                      try clear hfz29_2
                      try clear hfz29_3
                      try clear hfz29_4
                      try clear hfz34_0
                      try clear hfz34_1
                      try clear hfz34_2
                      try clear hfz34_3
                      try clear hfz34_4
                      try clear hfz36_0
                      try clear hfz36_1
                      try clear hfz36_2
                      try clear hfz36_3
                      try clear hfz36_4
                      try clear hfz39_0
                      try clear hfz39_1
                      try clear hfz39_2
                      try clear hfz39_3
                      try clear hfz39_4
                      try clear hfz41_0
                      try clear hfz41_1
                      try clear hfz41_2
                      try clear hfz41_3
                      try clear hfz41_4
                      try clear hfz43_0
                      try clear hfz43_1
                      try clear hfz43_2
                      try clear hfz43_3
                      try clear hfz43_4
                      try clear hfz8_0
                      try clear hfz8_1
                      try clear hfz8_2
                      try clear hfz8_3
                      try clear hfz8_4
                      try clear hx631_0
                      try clear hx632_0
                      try clear p2
                      try clear p6
                      try clear p631
                      try clear p632
                      try clear q6
                      try clear q631
                      try clear q632
                      obtain ⟨x8_4, rfl, HA, HK4, HO_4, BK618, HB⟩ := hrel
                      cases gk with
                      | zero => exact absurd HA.out (by simp [phaetonlaw05_WireRuns.l1])
                      | succ k4 =>
                        have H := HA.out
                        clear HA
                        simp only [phaetonlaw05_WireRuns.l1] at H
                        by_cases c59 : x8_4 < (t622.length : Int)
                        · rw [if_pos c59] at H
                          have c59b0 : decide (x8_4 < (t622.length : Int)) = true := decide_eq_true c59
                          clear c59
                          by_cases c60 : 0 ≤ x8_4
                          · rw [if_pos c60] at H
                            have c60b0 : decide (0 ≤ x8_4) = true := decide_eq_true c60
                            clear c60
                            by_cases c61 : (rd t622 x8_4) = 1
                            · rw [if_pos c61] at H
                              have c61b0 : ((rd t622 x8_4) == 1) = true := beq_iff_eq.mpr c61
                              have c61b1 : ((rd t622 x8_4) != 1) = false := bne_eq_false_iff_eq.mpr c61
                              clear c61
                              have H' := Aside0.mk H
                              clear H
                              have p633 : 0 ≤ (x8_4 : Int) := of_decide_eq_true (by first | (with_reducible assumption) | assumption)
                              have q633 : x8_4 < (t622.length : Int) := of_decide_eq_true (by first | (with_reducible assumption) | assumption)
                              obtain ⟨ad633, e633, hx633_0⟩ := Kd.at_int (Kd.R_reads' HO_4.out).2.2 x8_4 p633 q633
                              cases e633
                              replace p633 := eq_true p633
                              replace q633 := eq_true q633
                              go_wp2
                              repeat (go_quiet (fail); try go_wp2)
                              go_roundg k4
                              case measure => have := HJ2.out; have := HJ18.out; have := HK3.out; have := HK4.out; omega
                              case rel => exact ⟨(wrap64 (x8_4 + 1)), (by first | rfl | (simp; done) | (simp [*]; done)), H', ⟨by have := HJ2.out; have := HJ18.out; have := HK3.out; have := HK4.out; omega⟩, ⟨by (with_reducible repeat (first | apply Kd.R_alloc | apply Kd.R_drewN | apply Kd.R_drew)); exact HO_4.out⟩, ⟨by (with_reducible repeat (first | refine blk_drewN ?_ _ | refine blk_drew ?_ | refine blk_alloc ?_ _)); exact BK618.out⟩, ⟨by repeat (first | (with_reducible first | exact HB.out | apply below_alloc | apply pw_below_drewN | apply below_drew1 | refine below_set ?_ GE618.out) | exact HB.out)⟩⟩
                            · rw [if_neg c61] at H
                              exact absurd H (by simp)
                          · rw [if_neg c60] at H
                            exact absurd H (by simp)
                        · rw [if_neg c59] at H
                          have c59b0 : decide (x8_4 < (t622.length : Int)) = false := decide_eq_false c59
                          clear c59
                          by_cases c62 : t619 = true
                          · subst c62
                            have H1 : (some true) = some r := by rw [if_pos rfl] at H; exact H
                            clear H
                            have H := H1
                            clear H1
                            obtain rfl := Option.some.inj H
                            go_wp2
                            repeat (go_quiet (fail); try go_wp2)
                            go_ret
                            exact ⟨by first | rfl | (simp [errW_none, errW_some] <;> rfl) | (simp [*, errW_none, errW_some] <;> rfl), by repeat (first | (with_reducible first | exact HB.out | apply below_alloc | apply pw_below_drewN | apply below_drew1 | refine below_set ?_ GE618.out) | exact HB.out)⟩
                          · replace c62 := Bool.eq_false_iff.mpr c62
                            subst c62
                            have H1 : (none) = some r := by rw [if_neg (show ¬ (false = true) by decide)] at H; exact H
                            clear H
                            have H := H1
                            clear H1
                            exact absurd H (by simp)

/-- THE ONE PURE STATEMENT of phaetonlaw05_WireRuns. -/
def phaetonlaw05_WireRuns.Pure : Prop := ∀ (a0_0 : Bool) (a0_1 : Int) (a0_2 : Bool) (a0_3 : Int) (l0_4 : List Int), (Lit.int .i64 a0_1).wf = true → (Lit.int .i64 a0_3).wf = true → l0_4.length ≤ maxLen → (∀ x ∈ l0_4, (fun (x : Int) => (Lit.int .u8 x).wf = true) x) → ∃ k, phaetonlaw05_WireRuns.f k a0_0 a0_1 a0_2 a0_3 l0_4 = some true
theorem phaetonlaw05_WireRuns.walk (P : phaetonlaw05_WireRuns.Pure) (a0_0 : Bool) (a0_1 : Int) (a0_2 : Bool) (a0_3 : Int) (A0_4 : Option Addr) (c0_4 : Nat) (l0_4 : List Int) (w : World) (hw0_1 : (Lit.int .i64 a0_1).wf = true) (hw0_3 : (Lit.int .i64 a0_3).wf = true) (hw0_4 : ∀ x ∈ l0_4, (fun (x : Int) => (Lit.int .u8 x).wf = true) x) (hr0_4 : Kd.C (Kd.int .u8) w A0_4 l0_4.length l0_4) (hc0_4 : l0_4.length ≤ c0_4) :
    Calls Try.prog 6 #[.agg #[.bool a0_0, .int .i64 a0_1, .bool a0_2, .int .i64 a0_3, .slice A0_4 l0_4.length c0_4]] w fun e w' => e = .returned (.bool true) ∧ Below w.heap.size w w' := by
  obtain ⟨k, h⟩ := P a0_0 a0_1 a0_2 a0_3 l0_4 hw0_1 hw0_3 (by have := hr0_4.2.1; unfold maxLen; omega) hw0_4
  refine (phaetonlaw05_WireRuns.calls k a0_0 a0_1 a0_2 a0_3 _ _ l0_4 true w hr0_4 hc0_4 h).mono ?_
  rintro e w' ⟨rfl, hd⟩
  exact ⟨rfl, hd⟩

end Go.Proofs.Ythgeekcobmhbfaa.Px

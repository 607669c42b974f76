-- Written by myprint.py, a program of this session's, over the kit's print.py; not a text of print.sh's own.
import Derived.Test.YthgeekcobmhbfaaHandBox
import Derived.Test.YthgeekcobmhbfaaPx0
import Derived.Test.YthgeekcobmhbfaaPx1
import Derived.Test.YthgeekcobmhbfaaPx2
import Derived.Test.YthgeekcobmhbfaaPx9
import Derived.Test.YthgeekcobmhbfaaPx10
namespace Go.Proofs.Ythgeekcobmhbfaa.Px
open Go.RowKit Go.Proofs.YthgeekcobmhbfaaW.PrintWords Go.Proofs.YthgeekcobmhbfaaW.PrintLast Go.Proofs.YthgeekcobmhbfaaW.PrintMore
attribute [local go_sem] max2_int min2_int max_two min_two max_three min_three max_four min_four   -- for this text's walks alone
set_option linter.unusedVariables false
set_option linter.unusedSimpArgs false

/-! ### phaetonlaw05_WireApart: function 8 -/
def phaetonlaw05_WireApart.j0 : Nat → Bool → Bool → Bool → Int → Bool → Int → List Int → Bool → Int → Bool → Int → List Int → Option (Bool)
  | 0, _, _, _, _, _, _, _, _, _, _, _, _ => none
  | k + 1, x5, x25, x663000, x663001, x663002, x663003, x663004, x664000, x664001, x664002, x664003, x664004 => if x25 = true then (if x5 = true then (some true) else (none)) else ((wire_Bits.f x663000 x663001 x663002 x663003 x663004).bind fun t669 => ((wire_Bits.f x664000 x664001 x664002 x664003 x664004).bind fun t672 => (if x5 = true then (if (mn (t669.length : Int) (t672.length : Int)) ≥ 20 then (if 0 ≤ (mn (t669.length : Int) (t672.length : Int)) then (if (mn (t669.length : Int) (t672.length : Int)) ≤ (t669.length : Int) then (if (mn (t669.length : Int) (t672.length : Int)) ≤ (t672.length : Int) then ((phaetonref01_Same.f k (t669.take ((mn (t669.length : Int) (t672.length : Int)) : Int).toNat) (t672.take ((mn (t669.length : Int) (t672.length : Int)) : Int).toNat)).bind fun t683 => ((phaetonref04_Same.f x663000 x663001 x663002 x663003 x663004 x664000 x664001 x664002 x664003 x664004).bind fun t684 => (if (t683 == t684) = true then (some true) else (none)))) else (none)) else (none)) else (none)) else (none)) else (none))))
def phaetonlaw05_WireApart.f (k : Nat) (a0_0 : Bool) (a0_1 : Int) (a0_2 : Bool) (a0_3 : Int) (l0_4 : List Int) (a1_0 : Bool) (a1_1 : Int) (a1_2 : Bool) (a1_3 : Int) (l1_4 : List Int) : Option (Bool) := (phaetonlaw05_head.f k).bind fun t664 => ((phaetonlaw04_Great.f a0_0 a0_1 a0_2 a0_3 l0_4).bind fun t665 => (if t665 = true then (phaetonlaw05_WireApart.j0 k t664 true a0_0 a0_1 a0_2 a0_3 l0_4 a1_0 a1_1 a1_2 a1_3 l1_4) else ((phaetonlaw04_Great.f a1_0 a1_1 a1_2 a1_3 l1_4).bind fun t666 => (if t666 = true then (phaetonlaw05_WireApart.j0 k t664 true a0_0 a0_1 a0_2 a0_3 l0_4 a1_0 a1_1 a1_2 a1_3 l1_4) else ((phaetonref04_Right.f k a0_0 a0_1 a0_2 a0_3 l0_4).bind fun t667 => (if t667 = true then ((phaetonref04_Right.f k a1_0 a1_1 a1_2 a1_3 l1_4).bind fun t668 => (phaetonlaw05_WireApart.j0 k t664 (!t668) a0_0 a0_1 a0_2 a0_3 l0_4 a1_0 a1_1 a1_2 a1_3 l1_4)) else (phaetonlaw05_WireApart.j0 k t664 true a0_0 a0_1 a0_2 a0_3 l0_4 a1_0 a1_1 a1_2 a1_3 l1_4)))))))
theorem phaetonlaw05_WireApart.mono_l : ∀ k, (∀ y0 y1 y2 y3 y4 y5 y6 y7 y8 y9 y10 y11, LeO (phaetonlaw05_WireApart.j0 k y0 y1 y2 y3 y4 y5 y6 y7 y8 y9 y10 y11) (phaetonlaw05_WireApart.j0 (k + 1) y0 y1 y2 y3 y4 y5 y6 y7 y8 y9 y10 y11))
  | 0 => fun _ _ _ _ _ _ _ _ _ _ _ _ r h => by simp [phaetonlaw05_WireApart.j0] at h
  | k + 1 => by
    have ih0 := phaetonlaw05_WireApart.mono_l k
    · intro y0 y1 y2 y3 y4 y5 y6 y7 y8 y9 y10 y11
      unfold phaetonlaw05_WireApart.j0
      repeat' first
      | (with_reducible exact ih0 _ _ _ _ _ _ _ _ _ _ _ _)
      | (with_reducible exact phaetonlaw05_head.mono _)
      | (with_reducible exact phaetonref01_Same.mono _ _ _)
      | (with_reducible exact phaetonref04_Right.mono _ _ _ _ _ _)
      | (with_reducible exact LeO.refl _)
      | (with_reducible exact LeO.none _)
      | (with_reducible refine LeO.ite ?_ ?_)
      | (with_reducible refine LeO.bind ?_ (fun _ => ?_))
      | exact ih0 _ _ _ _ _ _ _ _ _ _ _ _
      | exact phaetonlaw05_head.mono _
      | exact phaetonref01_Same.mono _ _ _
      | exact phaetonref04_Right.mono _ _ _ _ _ _
      | exact LeO.none _
      | refine LeO.ite ?_ ?_
      | refine LeO.bind ?_ (fun _ => ?_)
theorem phaetonlaw05_WireApart.mono : ∀ a0 a1 a2 a3 a4 a5 a6 a7 a8 a9 k, LeO (phaetonlaw05_WireApart.f k a0 a1 a2 a3 a4 a5 a6 a7 a8 a9) (phaetonlaw05_WireApart.f (k + 1) a0 a1 a2 a3 a4 a5 a6 a7 a8 a9) := by
  intro a0 a1 a2 a3 a4 a5 a6 a7 a8 a9 k
  have ih0 := phaetonlaw05_WireApart.mono_l k
  unfold phaetonlaw05_WireApart.f
  repeat' first
      | (with_reducible exact ih0 _ _ _ _ _ _ _ _ _ _ _ _)
      | (with_reducible exact phaetonlaw05_head.mono _)
      | (with_reducible exact phaetonref01_Same.mono _ _ _)
      | (with_reducible exact phaetonref04_Right.mono _ _ _ _ _ _)
      | (with_reducible exact LeO.refl _)
      | (with_reducible exact LeO.none _)
      | (with_reducible refine LeO.ite ?_ ?_)
      | (with_reducible refine LeO.bind ?_ (fun _ => ?_))
      | exact ih0 _ _ _ _ _ _ _ _ _ _ _ _
      | exact phaetonlaw05_head.mono _
      | exact phaetonref01_Same.mono _ _ _
      | exact phaetonref04_Right.mono _ _ _ _ _ _
      | exact LeO.none _
      | refine LeO.ite ?_ ?_
      | refine LeO.bind ?_ (fun _ => ?_)
def phaetonlaw05_WireApart.T7 : Bool × List (List Nat × List Nat) := (true, [([], []), ([0], [0]), ([1], [1]), ([2, 1], [1, 2]), ([1, 3], [1, 3]), ([4, 1], [4]), ([5], [5]), ([5], [5]), ([6, 7, 5], [5, 6, 7]), ([5], [5]), ([5], [5]), ([9, 10, 5], [5, 9, 10]), ([8, 11, 5, 5], [5, 8, 11]), ([5], [5]), ([5], [5]), ([13, 14, 12, 5], [5, 13, 14]), ([12, 15, 5], [5, 12, 15]), ([5, 16], [5, 16]), ([17, 15, 0, 1, 2, 3, 4, 5, 6, 7, 8, 9, 10, 11, 12, 13, 14, 15, 16, 17], [17])])
def phaetonlaw05_WireApart.B7 : List Nat := [0, 1, 3, 7, 15, 31, 63, 63, 255, 63, 63, 1599, 4095, 63, 63, 32767, 65535, 131071, 262143]
theorem phaetonlaw05_WireApart.tab7 : rtab .any (opsOf Try.f8 7) = phaetonlaw05_WireApart.T7 := by kernel_rfl
theorem phaetonlaw05_WireApart.bits7 : waitsOk phaetonlaw05_WireApart.T7.2 phaetonlaw05_WireApart.B7 = true := by kernel_rfl
set_option maxHeartbeats 8000000 in
set_option maxRecDepth 100000 in
theorem phaetonlaw05_WireApart.calls (k : Nat) (a0_0 : Bool) (a0_1 : Int) (a0_2 : Bool) (a0_3 : Int) (A0_4 : Option Addr) (c0_4 : Nat) (l0_4 : List Int) (a1_0 : Bool) (a1_1 : Int) (a1_2 : Bool) (a1_3 : Int) (A1_4 : Option Addr) (c1_4 : Nat) (l1_4 : List Int) (r : Bool) (w : World) (hr0_4 : Kd.C (Kd.int .u8) w A0_4 l0_4.length l0_4) (hc0_4 : l0_4.length ≤ c0_4) (hr1_4 : Kd.C (Kd.int .u8) w A1_4 l1_4.length l1_4) (hc1_4 : l1_4.length ≤ c1_4) (h : phaetonlaw05_WireApart.f k a0_0 a0_1 a0_2 a0_3 l0_4 a1_0 a1_1 a1_2 a1_3 l1_4 = some r) :
    Calls Try.prog 8 #[.agg #[.bool a0_0, .int .i64 a0_1, .bool a0_2, .int .i64 a0_3, .slice A0_4 l0_4.length c0_4], .agg #[.bool a1_0, .int .i64 a1_1, .bool a1_2, .int .i64 a1_3, .slice A1_4 l1_4.length c1_4]] w fun e w' => e = .returned (.bool r) ∧ Below w.heap.size w w' := by
  have hu24 := Try.underlying24
  have HR0_4 := Aside0.mk hr0_4
  have HC0_4 := Aside0.mk hc0_4
  clear hr0_4 hc0_4
  have HR1_4 := Aside0.mk hr1_4
  have HC1_4 := Aside0.mk hc1_4
  clear hr1_4 hc1_4
  have HB := Aside0.mk (Below.refl w.heap.size w)
  have H : ((phaetonlaw05_head.f k).bind fun t664 => ((phaetonlaw04_Great.f a0_0 a0_1 a0_2 a0_3 l0_4).bind fun t665 => (if t665 = true then (phaetonlaw05_WireApart.j0 k t664 true a0_0 a0_1 a0_2 a0_3 l0_4 a1_0 a1_1 a1_2 a1_3 l1_4) else ((phaetonlaw04_Great.f a1_0 a1_1 a1_2 a1_3 l1_4).bind fun t666 => (if t666 = true then (phaetonlaw05_WireApart.j0 k t664 true a0_0 a0_1 a0_2 a0_3 l0_4 a1_0 a1_1 a1_2 a1_3 l1_4) else ((phaetonref04_Right.f k a0_0 a0_1 a0_2 a0_3 l0_4).bind fun t667 => (if t667 = true then ((phaetonref04_Right.f k a1_0 a1_1 a1_2 a1_3 l1_4).bind fun t668 => (phaetonlaw05_WireApart.j0 k t664 (!t668) a0_0 a0_1 a0_2 a0_3 l0_4 a1_0 a1_1 a1_2 a1_3 l1_4)) else (phaetonlaw05_WireApart.j0 k t664 true a0_0 a0_1 a0_2 a0_3 l0_4 a1_0 a1_1 a1_2 a1_3 l1_4)))))))) = some r := h
  clear h
  replace H := Option.bind_eq_some_iff.mp H
  obtain ⟨t664, A30, H⟩ := H
  replace H : ((phaetonlaw04_Great.f a0_0 a0_1 a0_2 a0_3 l0_4).bind fun t665 => (if t665 = true then (phaetonlaw05_WireApart.j0 k t664 true a0_0 a0_1 a0_2 a0_3 l0_4 a1_0 a1_1 a1_2 a1_3 l1_4) else ((phaetonlaw04_Great.f a1_0 a1_1 a1_2 a1_3 l1_4).bind fun t666 => (if t666 = true then (phaetonlaw05_WireApart.j0 k t664 true a0_0 a0_1 a0_2 a0_3 l0_4 a1_0 a1_1 a1_2 a1_3 l1_4) else ((phaetonref04_Right.f k a0_0 a0_1 a0_2 a0_3 l0_4).bind fun t667 => (if t667 = true then ((phaetonref04_Right.f k a1_0 a1_1 a1_2 a1_3 l1_4).bind fun t668 => (phaetonlaw05_WireApart.j0 k t664 (!t668) a0_0 a0_1 a0_2 a0_3 l0_4 a1_0 a1_1 a1_2 a1_3 l1_4)) else (phaetonlaw05_WireApart.j0 k t664 true a0_0 a0_1 a0_2 a0_3 l0_4 a1_0 a1_1 a1_2 a1_3 l1_4))))))) = some r := H
  have A3 := Aside0.mk A30
  clear A30
  have HC4 := Aside0.mk H
  clear H
  go_enter Try.func8, Try.ntmps8
  (try simp only [List.append])
  go_upto_region 2 with (first | ((with_reducible refine gate_dst (N := 2) rfl ?_); refine box_event ?hg (N := 2) ?hd (cs := #[.bool a0_0, .int .i64 a0_1, .bool a0_2, .int .i64 a0_3, .slice A0_4 l0_4.length c0_4]) (t := 24) ?hr ?_; (case hd => rfl); (case hg => rfl); (case hr => first | (go_simp; done) | (go_simp; rfl)); intro gb662 hg w5 hbox hb; have n0_ := Aside0.mk (below_step (by repeat (first | (with_reducible first | exact HB.out | apply below_alloc | apply pw_below_drewN | apply below_drew1) | exact HB.out)) hb); have n1_ := Aside0.mk (hbox); have n2_ := Aside0.mk ((by rw [hg]; exact (below_size (by repeat (first | (with_reducible first | exact HB.out | apply below_alloc | apply pw_below_drewN | apply below_drew1) | exact HB.out))) : w.heap.size ≤ gb662)); have n3_ := Aside0.mk ((by rw [hg]; exact (below_size (by repeat (first | (with_reducible first | exact HB.out | apply below_alloc | apply pw_below_drewN | apply below_drew1) | exact HB.out))) : w.heap.size ≤ gb662)); clear HB; have HB := n0_; have BK662 := n1_; have GW662 := n2_; have GE662 := n3_; clear n0_ n1_ n2_ n3_; clear hb hbox hg) | ((with_reducible refine gate_dst (N := 3) rfl ?_); refine box_event ?hg (N := 3) ?hd (cs := #[.bool a1_0, .int .i64 a1_1, .bool a1_2, .int .i64 a1_3, .slice A1_4 l1_4.length c1_4]) (t := 24) ?hr ?_; (case hd => rfl); (case hg => rfl); (case hr => first | (go_simp; done) | (go_simp; rfl)); intro gb663 hg w6 hbox hb; have n0_ := Aside0.mk (blk_below (g := gb662) (o := .cells #[.bool a0_0, .int .i64 a0_1, .bool a0_2, .int .i64 a0_3, .slice A0_4 l0_4.length c0_4] 24 (0, 0)) (by (with_reducible repeat (first | refine blk_drewN ?_ _ | refine blk_drew ?_ | refine blk_alloc ?_ _)); exact BK662.out) hb); have n1_ := Aside0.mk (below_step (by repeat (first | (with_reducible first | exact HB.out | apply below_alloc | apply pw_below_drewN | apply below_drew1 | refine below_set ?_ GE662.out) | exact HB.out)) hb); have n2_ := Aside0.mk (hbox); have n3_ := Aside0.mk ((by rw [hg]; exact (below_size (by repeat (first | (with_reducible first | exact HB.out | apply below_alloc | apply pw_below_drewN | apply below_drew1 | refine below_set ?_ GE662.out) | exact HB.out))) : w.heap.size ≤ gb663)); have n4_ := Aside0.mk ((by rw [hg]; exact (below_size (by repeat (first | (with_reducible first | exact HB.out | apply below_alloc | apply pw_below_drewN | apply below_drew1 | refine below_set ?_ GE662.out) | exact HB.out))) : w.heap.size ≤ gb663)); have n5_ := Aside0.mk ((by rw [hg]; exact Nat.ne_of_lt (blk_lt (g := gb662) (o := .cells #[.bool a0_0, .int .i64 a0_1, .bool a0_2, .int .i64 a0_3, .slice A0_4 l0_4.length c0_4] 24 (0, 0)) (by (with_reducible repeat (first | refine blk_drewN ?_ _ | refine blk_drew ?_ | refine blk_alloc ?_ _)); exact BK662.out)) : gb662 ≠ gb663)); have n6_ := Aside0.mk ((by rw [hg]; exact Nat.ne_of_gt (blk_lt (g := gb662) (o := .cells #[.bool a0_0, .int .i64 a0_1, .bool a0_2, .int .i64 a0_3, .slice A0_4 l0_4.length c0_4] 24 (0, 0)) (by (with_reducible repeat (first | refine blk_drewN ?_ _ | refine blk_drew ?_ | refine blk_alloc ?_ _)); exact BK662.out)) : gb663 ≠ gb662)); clear BK662; clear HB; have BK662 := n0_; have HB := n1_; have BK663 := n2_; have GW663 := n3_; have GE663 := n4_; have NB662_663 := n5_; have NB663_662 := n6_; clear n0_ n1_ n2_ n3_ n4_ n5_ n6_; clear hb hbox hg) | ((with_reducible refine gate_callee (f := 10) rfl ?_); refine goesL_ (some 9) rfl rfl Try.func10 (by kernel_rfl) rfl #[] rfl (by (try simp only [List.map_toArray, List.map_cons, List.map_nil]); first | done | rfl | (simp only [List.length_drop, List.length_take]; rfl)) ?_; (with_reducible refine (phaetonlaw05_head.calls k  t664 _ A3.out).mono ?_); rintro e w7 ⟨rfl, hb⟩; refine ⟨_, rfl, ?_⟩; have n0_ := Aside0.mk (blk_below (g := gb662) (o := .cells #[.bool a0_0, .int .i64 a0_1, .bool a0_2, .int .i64 a0_3, .slice A0_4 l0_4.length c0_4] 24 (0, 0)) (by (with_reducible repeat (first | refine blk_drewN ?_ _ | refine blk_drew ?_ | refine blk_alloc ?_ _)); exact BK662.out) hb); have n1_ := Aside0.mk (blk_below (g := gb663) (o := .cells #[.bool a1_0, .int .i64 a1_1, .bool a1_2, .int .i64 a1_3, .slice A1_4 l1_4.length c1_4] 24 (0, 0)) (by (with_reducible repeat (first | refine blk_drewN ?_ _ | refine blk_drew ?_ | refine blk_alloc ?_ _)); exact BK663.out) hb); have n2_ := Aside0.mk (below_step (by repeat (first | (with_reducible first | exact HB.out | apply below_alloc | apply pw_below_drewN | apply below_drew1 | refine below_set ?_ GE662.out | refine below_set ?_ GE663.out) | exact HB.out)) hb); clear BK662; clear BK663; clear HB; have BK662 := n0_; have BK663 := n1_; have HB := n2_; clear n0_ n1_ n2_; (try clear hb); (try clear hb2); (try clear hk); (try clear hi)))
  (try simp only [Act.put, List.setIfInBounds_toArray, List.set_cons_zero, List.set_cons_succ])
  go_cut [25] (fun v25 wc => ∃ (kq : Nat) (x25_3 : Bool), v25 = .bool x25_3 ∧ Aside0 (phaetonlaw05_WireApart.j0 kq t664 x25_3 a0_0 a0_1 a0_2 a0_3 l0_4 a1_0 a1_1 a1_2 a1_3 l1_4 = some r) ∧ Aside0 (kq ≤ k) ∧ Aside0 (wc.heap[gb662]? = some (.cells #[.bool a0_0, .int .i64 a0_1, .bool a0_2, .int .i64 a0_3, (.slice A0_4 l0_4.length c0_4)] 24 (0, 0))) ∧ Aside0 (wc.heap[gb663]? = some (.cells #[.bool a1_0, .int .i64 a1_1, .bool a1_2, .int .i64 a1_3, (.slice A1_4 l1_4.length c1_4)] 24 (0, 0))) ∧ Aside0 (Below w.heap.size w wc))
  case first =>
    have H := HC4.out
    clear HC4
    replace H := Option.bind_eq_some_iff.mp H
    obtain ⟨t665, A80, H⟩ := H
    replace H : (if t665 = true then (phaetonlaw05_WireApart.j0 k t664 true a0_0 a0_1 a0_2 a0_3 l0_4 a1_0 a1_1 a1_2 a1_3 l1_4) else ((phaetonlaw04_Great.f a1_0 a1_1 a1_2 a1_3 l1_4).bind fun t666 => (if t666 = true then (phaetonlaw05_WireApart.j0 k t664 true a0_0 a0_1 a0_2 a0_3 l0_4 a1_0 a1_1 a1_2 a1_3 l1_4) else ((phaetonref04_Right.f k a0_0 a0_1 a0_2 a0_3 l0_4).bind fun t667 => (if t667 = true then ((phaetonref04_Right.f k a1_0 a1_1 a1_2 a1_3 l1_4).bind fun t668 => (phaetonlaw05_WireApart.j0 k t664 (!t668) a0_0 a0_1 a0_2 a0_3 l0_4 a1_0 a1_1 a1_2 a1_3 l1_4)) else (phaetonlaw05_WireApart.j0 k t664 true a0_0 a0_1 a0_2 a0_3 l0_4 a1_0 a1_1 a1_2 a1_3 l1_4)))))) = some r := H
    have A8 := Aside0.mk A80
    clear A80
    by_cases c9 : t665 = true
    · subst c9
      have H1 : (phaetonlaw05_WireApart.j0 k t664 true a0_0 a0_1 a0_2 a0_3 l0_4 a1_0 a1_1 a1_2 a1_3 l1_4) = some r := by rw [if_pos rfl] at H; exact H
      clear H
      have H := H1
      clear H1
      have H' := Aside0.mk H
      clear H
      have hnb10 := NB662_663.out
      have hnc10 := NB663_662.out
      have hcz11_0 : w7.cell? ⟨gb662, 0, none⟩ = some (.bool a0_0) := (blk_cell BK662.out 0).trans rfl
      have hcz11_1 : w7.cell? ⟨gb662, 1, none⟩ = some (.int .i64 a0_1) := (blk_cell BK662.out 1).trans rfl
      have hcz11_2 : w7.cell? ⟨gb662, 2, none⟩ = some (.bool a0_2) := (blk_cell BK662.out 2).trans rfl
      have hcz11_3 : w7.cell? ⟨gb662, 3, none⟩ = some (.int .i64 a0_3) := (blk_cell BK662.out 3).trans rfl
      have hcz11_4 : w7.cell? ⟨gb662, 4, none⟩ = some (.slice A0_4 l0_4.length c0_4) := (blk_cell BK662.out 4).trans rfl
      have hfz11_0 := blk_frozen BK662.out 0
      have hfz11_1 := blk_frozen BK662.out 1
      have hfz11_2 := blk_frozen BK662.out 2
      have hfz11_3 := blk_frozen BK662.out 3
      have hfz11_4 := blk_frozen BK662.out 4
      go_wp2_with (first | ((with_reducible refine gate_store (t := 24) (p := 3) rfl ?_); refine HW.store_box2 rfl rfl 24 _ _ rfl rfl rfl BK663.out rfl (by kernel_rfl) (by intro q hq; simp only [List.mem_cons, List.not_mem_nil, or_false] at hq; rcases hq with rfl | rfl | rfl | rfl | rfl <;> rfl) ?_; intro w1_ hw1_ hk1_; simp only [List.toList_toArray, World.setCells, Nat.zero_add, Nat.reduceAdd] at hw1_; subst hw1_; have hcb663_0 := (blk_cell hk1_ 0).trans rfl; have hfb663_0 := blk_frozen hk1_ 0; have hcb663_1 := (blk_cell hk1_ 1).trans rfl; have hfb663_1 := blk_frozen hk1_ 1; have hcb663_2 := (blk_cell hk1_ 2).trans rfl; have hfb663_2 := blk_frozen hk1_ 2; have hcb663_3 := (blk_cell hk1_ 3).trans rfl; have hfb663_3 := blk_frozen hk1_ 3; have hcb663_4 := (blk_cell hk1_ 4).trans rfl; have hfb663_4 := blk_frozen hk1_ 4; clear hk1_) | ((with_reducible refine gate_store (t := 24) (p := 2) rfl ?_); refine HW.store_box2 rfl rfl 24 _ _ rfl rfl rfl BK662.out rfl (by kernel_rfl) (by intro q hq; simp only [List.mem_cons, List.not_mem_nil, or_false] at hq; rcases hq with rfl | rfl | rfl | rfl | rfl <;> rfl) ?_; intro w1_ hw1_ hk1_; simp only [List.toList_toArray, World.setCells, Nat.zero_add, Nat.reduceAdd] at hw1_; subst hw1_; have hcb662_0 := (blk_cell hk1_ 0).trans rfl; have hfb662_0 := blk_frozen hk1_ 0; have hcb662_1 := (blk_cell hk1_ 1).trans rfl; have hfb662_1 := blk_frozen hk1_ 1; have hcb662_2 := (blk_cell hk1_ 2).trans rfl; have hfb662_2 := blk_frozen hk1_ 2; have hcb662_3 := (blk_cell hk1_ 3).trans rfl; have hfb662_3 := blk_frozen hk1_ 3; have hcb662_4 := (blk_cell hk1_ 4).trans rfl; have hfb662_4 := blk_frozen hk1_ 4; clear hk1_) | ((with_reducible refine gate_callee (f := 11) rfl ?_); refine goesL_ (some 11) rfl rfl Try.func11 (by kernel_rfl) rfl #[.agg #[.bool a0_0, .int .i64 a0_1, .bool a0_2, .int .i64 a0_3, .slice A0_4 l0_4.length c0_4]] rfl (by (try simp only [List.map_toArray, List.map_cons, List.map_nil]); first | done | rfl | (simp only [List.length_drop, List.length_take]; rfl)) ?_; (with_reducible refine (phaetonlaw04_Great.calls a0_0 a0_1 a0_2 a0_3 _ _ l0_4 true _ ?side1 ?side2 A8.out).mono ?_); (case side1 => repeat (first | exact (Kd.C_below HR0_4.out HB.out) | (with_reducible refine Kd.C_alloc ?_ _) | (with_reducible refine Kd.C_drewN ?_ _) | (with_reducible refine Kd.C_drew ?_))); (case side2 => exact HC0_4.out); rintro e w12 ⟨rfl, hb⟩; refine ⟨_, rfl, ?_⟩; have n0_ := Aside0.mk (blk_below (g := gb662) (o := .cells #[.bool a0_0, .int .i64 a0_1, .bool a0_2, .int .i64 a0_3, .slice A0_4 l0_4.length c0_4] 24 (0, 0)) (by (with_reducible repeat (first | refine blk_drewN ?_ _ | refine blk_drew ?_ | refine blk_alloc ?_ _)); exact BK662.out) hb); have n1_ := Aside0.mk (blk_below (g := gb663) (o := .cells #[.bool a1_0, .int .i64 a1_1, .bool a1_2, .int .i64 a1_3, .slice A1_4 l1_4.length c1_4] 24 (0, 0)) (by (with_reducible repeat (first | refine blk_drewN ?_ _ | refine blk_drew ?_ | refine blk_alloc ?_ _)); exact BK663.out) hb); have n2_ := Aside0.mk (below_step (by repeat (first | (with_reducible first | exact HB.out | apply below_alloc | apply pw_below_drewN | apply below_drew1 | refine below_set ?_ GE662.out | refine below_set ?_ GE663.out) | exact HB.out)) hb); clear BK662; clear BK663; clear HB; have BK662 := n0_; have BK663 := n1_; have HB := n2_; clear n0_ n1_ n2_; (try clear hb); (try clear hb2); (try clear hk); (try clear hi)))
      go_meet
      case rel => exact ⟨_, (true), (by first | rfl | (simp; done) | (simp [*]; done)), H', ⟨by first | omega | exact Nat.le_refl _⟩, ⟨by (with_reducible repeat (first | refine blk_drewN ?_ _ | refine blk_drew ?_ | refine blk_alloc ?_ _)); exact BK662.out⟩, ⟨by (with_reducible repeat (first | refine blk_drewN ?_ _ | refine blk_drew ?_ | refine blk_alloc ?_ _)); exact BK663.out⟩, ⟨by repeat (first | (with_reducible first | exact HB.out | apply below_alloc | apply pw_below_drewN | apply below_drew1 | refine below_set ?_ GE662.out | refine below_set ?_ GE663.out) | exact HB.out)⟩⟩
    · replace c9 := Bool.eq_false_iff.mpr c9
      subst c9
      have H1 : ((phaetonlaw04_Great.f a1_0 a1_1 a1_2 a1_3 l1_4).bind fun t666 => (if t666 = true then (phaetonlaw05_WireApart.j0 k t664 true a0_0 a0_1 a0_2 a0_3 l0_4 a1_0 a1_1 a1_2 a1_3 l1_4) else ((phaetonref04_Right.f k a0_0 a0_1 a0_2 a0_3 l0_4).bind fun t667 => (if t667 = true then ((phaetonref04_Right.f k a1_0 a1_1 a1_2 a1_3 l1_4).bind fun t668 => (phaetonlaw05_WireApart.j0 k t664 (!t668) a0_0 a0_1 a0_2 a0_3 l0_4 a1_0 a1_1 a1_2 a1_3 l1_4)) else (phaetonlaw05_WireApart.j0 k t664 true a0_0 a0_1 a0_2 a0_3 l0_4 a1_0 a1_1 a1_2 a1_3 l1_4))))) = some r := by rw [if_neg (show ¬ (false = true) by decide)] at H; exact H
      clear H
      have H := H1
      clear H1
      replace H := Option.bind_eq_some_iff.mp H
      obtain ⟨t666, A130, H⟩ := H
      replace H : (if t666 = true then (phaetonlaw05_WireApart.j0 k t664 true a0_0 a0_1 a0_2 a0_3 l0_4 a1_0 a1_1 a1_2 a1_3 l1_4) else ((phaetonref04_Right.f k a0_0 a0_1 a0_2 a0_3 l0_4).bind fun t667 => (if t667 = true then ((phaetonref04_Right.f k a1_0 a1_1 a1_2 a1_3 l1_4).bind fun t668 => (phaetonlaw05_WireApart.j0 k t664 (!t668) a0_0 a0_1 a0_2 a0_3 l0_4 a1_0 a1_1 a1_2 a1_3 l1_4)) else (phaetonlaw05_WireApart.j0 k t664 true a0_0 a0_1 a0_2 a0_3 l0_4 a1_0 a1_1 a1_2 a1_3 l1_4)))) = some r := H
      have A13 := Aside0.mk A130
      clear A130
      by_cases c14 : t666 = true
      · subst c14
        have H1 : (phaetonlaw05_WireApart.j0 k t664 true a0_0 a0_1 a0_2 a0_3 l0_4 a1_0 a1_1 a1_2 a1_3 l1_4) = some r := by rw [if_pos rfl] at H; exact H
        clear H
        have H := H1
        clear H1
        have H' := Aside0.mk H
        clear H
        have hnb15 := NB662_663.out
        have hnc15 := NB663_662.out
        have hcz16_0 : w7.cell? ⟨gb662, 0, none⟩ = some (.bool a0_0) := (blk_cell BK662.out 0).trans rfl
        have hcz16_1 : w7.cell? ⟨gb662, 1, none⟩ = some (.int .i64 a0_1) := (blk_cell BK662.out 1).trans rfl
        have hcz16_2 : w7.cell? ⟨gb662, 2, none⟩ = some (.bool a0_2) := (blk_cell BK662.out 2).trans rfl
        have hcz16_3 : w7.cell? ⟨gb662, 3, none⟩ = some (.int .i64 a0_3) := (blk_cell BK662.out 3).trans rfl
        have hcz16_4 : w7.cell? ⟨gb662, 4, none⟩ = some (.slice A0_4 l0_4.length c0_4) := (blk_cell BK662.out 4).trans rfl
        have hfz16_0 := blk_frozen BK662.out 0
        have hfz16_1 := blk_frozen BK662.out 1
        have hfz16_2 := blk_frozen BK662.out 2
        have hfz16_3 := blk_frozen BK662.out 3
        have hfz16_4 := blk_frozen BK662.out 4
        go_wp2_with (first | ((with_reducible refine gate_store (t := 24) (p := 3) rfl ?_); refine HW.store_box2 rfl rfl 24 _ _ rfl rfl rfl BK663.out rfl (by kernel_rfl) (by intro q hq; simp only [List.mem_cons, List.not_mem_nil, or_false] at hq; rcases hq with rfl | rfl | rfl | rfl | rfl <;> rfl) ?_; intro w1_ hw1_ hk1_; simp only [List.toList_toArray, World.setCells, Nat.zero_add, Nat.reduceAdd] at hw1_; subst hw1_; have hcb663_0 := (blk_cell hk1_ 0).trans rfl; have hfb663_0 := blk_frozen hk1_ 0; have hcb663_1 := (blk_cell hk1_ 1).trans rfl; have hfb663_1 := blk_frozen hk1_ 1; have hcb663_2 := (blk_cell hk1_ 2).trans rfl; have hfb663_2 := blk_frozen hk1_ 2; have hcb663_3 := (blk_cell hk1_ 3).trans rfl; have hfb663_3 := blk_frozen hk1_ 3; have hcb663_4 := (blk_cell hk1_ 4).trans rfl; have hfb663_4 := blk_frozen hk1_ 4; clear hk1_) | ((with_reducible refine gate_store (t := 24) (p := 2) rfl ?_); refine HW.store_box2 rfl rfl 24 _ _ rfl rfl rfl BK662.out rfl (by kernel_rfl) (by intro q hq; simp only [List.mem_cons, List.not_mem_nil, or_false] at hq; rcases hq with rfl | rfl | rfl | rfl | rfl <;> rfl) ?_; intro w1_ hw1_ hk1_; simp only [List.toList_toArray, World.setCells, Nat.zero_add, Nat.reduceAdd] at hw1_; subst hw1_; have hcb662_0 := (blk_cell hk1_ 0).trans rfl; have hfb662_0 := blk_frozen hk1_ 0; have hcb662_1 := (blk_cell hk1_ 1).trans rfl; have hfb662_1 := blk_frozen hk1_ 1; have hcb662_2 := (blk_cell hk1_ 2).trans rfl; have hfb662_2 := blk_frozen hk1_ 2; have hcb662_3 := (blk_cell hk1_ 3).trans rfl; have hfb662_3 := blk_frozen hk1_ 3; have hcb662_4 := (blk_cell hk1_ 4).trans rfl; have hfb662_4 := blk_frozen hk1_ 4; clear hk1_) | ((with_reducible refine gate_callee (f := 11) rfl ?_); refine goesL_ (some 11) rfl rfl Try.func11 (by kernel_rfl) rfl #[.agg #[.bool a0_0, .int .i64 a0_1, .bool a0_2, .int .i64 a0_3, .slice A0_4 l0_4.length c0_4]] rfl (by (try simp only [List.map_toArray, List.map_cons, List.map_nil]); first | done | rfl | (simp only [List.length_drop, List.length_take]; rfl)) ?_; (with_reducible refine (phaetonlaw04_Great.calls a0_0 a0_1 a0_2 a0_3 _ _ l0_4 false _ ?side1 ?side2 A8.out).mono ?_); (case side1 => repeat (first | exact (Kd.C_below HR0_4.out HB.out) | (with_reducible refine Kd.C_alloc ?_ _) | (with_reducible refine Kd.C_drewN ?_ _) | (with_reducible refine Kd.C_drew ?_))); (case side2 => exact HC0_4.out); rintro e w17 ⟨rfl, hb⟩; refine ⟨_, rfl, ?_⟩; have n0_ := Aside0.mk (blk_below (g := gb662) (o := .cells #[.bool a0_0, .int .i64 a0_1, .bool a0_2, .int .i64 a0_3, .slice A0_4 l0_4.length c0_4] 24 (0, 0)) (by (with_reducible repeat (first | refine blk_drewN ?_ _ | refine blk_drew ?_ | refine blk_alloc ?_ _)); exact BK662.out) hb); have n1_ := Aside0.mk (blk_below (g := gb663) (o := .cells #[.bool a1_0, .int .i64 a1_1, .bool a1_2, .int .i64 a1_3, .slice A1_4 l1_4.length c1_4] 24 (0, 0)) (by (with_reducible repeat (first | refine blk_drewN ?_ _ | refine blk_drew ?_ | refine blk_alloc ?_ _)); exact BK663.out) hb); have n2_ := Aside0.mk (below_step (by repeat (first | (with_reducible first | exact HB.out | apply below_alloc | apply pw_below_drewN | apply below_drew1 | refine below_set ?_ GE662.out | refine below_set ?_ GE663.out) | exact HB.out)) hb); clear BK662; clear BK663; clear HB; have BK662 := n0_; have BK663 := n1_; have HB := n2_; clear n0_ n1_ n2_; (try clear hb); (try clear hb2); (try clear hk); (try clear hi); have hcz18_0 : w17.cell? ⟨gb663, 0, none⟩ = some (.bool a1_0) := (blk_cell BK663.out 0).trans rfl; have hcz18_1 : w17.cell? ⟨gb663, 1, none⟩ = some (.int .i64 a1_1) := (blk_cell BK663.out 1).trans rfl; have hcz18_2 : w17.cell? ⟨gb663, 2, none⟩ = some (.bool a1_2) := (blk_cell BK663.out 2).trans rfl; have hcz18_3 : w17.cell? ⟨gb663, 3, none⟩ = some (.int .i64 a1_3) := (blk_cell BK663.out 3).trans rfl; have hcz18_4 : w17.cell? ⟨gb663, 4, none⟩ = some (.slice A1_4 l1_4.length c1_4) := (blk_cell BK663.out 4).trans rfl; have hfz18_0 := blk_frozen BK663.out 0; have hfz18_1 := blk_frozen BK663.out 1; have hfz18_2 := blk_frozen BK663.out 2; have hfz18_3 := blk_frozen BK663.out 3; have hfz18_4 := blk_frozen BK663.out 4) | (go_at_call 11; (with_reducible refine (phaetonlaw04_Great.calls a1_0 a1_1 a1_2 a1_3 _ _ l1_4 true _ ?side1 ?side2 A13.out).mono ?_); (case side1 => repeat (first | exact (Kd.C_below HR1_4.out HB.out) | (with_reducible refine Kd.C_alloc ?_ _) | (with_reducible refine Kd.C_drewN ?_ _) | (with_reducible refine Kd.C_drew ?_))); (case side2 => exact HC1_4.out); rintro e w19 ⟨rfl, hb⟩; have n0_ := Aside0.mk (blk_below (g := gb662) (o := .cells #[.bool a0_0, .int .i64 a0_1, .bool a0_2, .int .i64 a0_3, .slice A0_4 l0_4.length c0_4] 24 (0, 0)) (by (with_reducible repeat (first | refine blk_drewN ?_ _ | refine blk_drew ?_ | refine blk_alloc ?_ _)); exact BK662.out) hb); have n1_ := Aside0.mk (blk_below (g := gb663) (o := .cells #[.bool a1_0, .int .i64 a1_1, .bool a1_2, .int .i64 a1_3, .slice A1_4 l1_4.length c1_4] 24 (0, 0)) (by (with_reducible repeat (first | refine blk_drewN ?_ _ | refine blk_drew ?_ | refine blk_alloc ?_ _)); exact BK663.out) hb); have n2_ := Aside0.mk (below_step (by repeat (first | (with_reducible first | exact HB.out | apply below_alloc | apply pw_below_drewN | apply below_drew1 | refine below_set ?_ GE662.out | refine below_set ?_ GE663.out) | exact HB.out)) hb); clear BK662; clear BK663; clear HB; have BK662 := n0_; have BK663 := n1_; have HB := n2_; clear n0_ n1_ n2_; (try clear hb); (try clear hb2); (try clear hk); (try clear hi)))
        go_meet
        case rel => exact ⟨_, (true), (by first | rfl | (simp; done) | (simp [*]; done)), H', ⟨by first | omega | exact Nat.le_refl _⟩, ⟨by (with_reducible repeat (first | refine blk_drewN ?_ _ | refine blk_drew ?_ | refine blk_alloc ?_ _)); exact BK662.out⟩, ⟨by (with_reducible repeat (first | refine blk_drewN ?_ _ | refine blk_drew ?_ | refine blk_alloc ?_ _)); exact BK663.out⟩, ⟨by repeat (first | (with_reducible first | exact HB.out | apply below_alloc | apply pw_below_drewN | apply below_drew1 | refine below_set ?_ GE662.out | refine below_set ?_ GE663.out) | exact HB.out)⟩⟩
      · replace c14 := Bool.eq_false_iff.mpr c14
        subst c14
        have H1 : ((phaetonref04_Right.f k a0_0 a0_1 a0_2 a0_3 l0_4).bind fun t667 => (if t667 = true then ((phaetonref04_Right.f k a1_0 a1_1 a1_2 a1_3 l1_4).bind fun t668 => (phaetonlaw05_WireApart.j0 k t664 (!t668) a0_0 a0_1 a0_2 a0_3 l0_4 a1_0 a1_1 a1_2 a1_3 l1_4)) else (phaetonlaw05_WireApart.j0 k t664 true a0_0 a0_1 a0_2 a0_3 l0_4 a1_0 a1_1 a1_2 a1_3 l1_4))) = some r := by rw [if_neg (show ¬ (false = true) by decide)] at H; exact H
        clear H
        have H := H1
        clear H1
        replace H := Option.bind_eq_some_iff.mp H
        obtain ⟨t667, A200, H⟩ := H
        replace H : (if t667 = true then ((phaetonref04_Right.f k a1_0 a1_1 a1_2 a1_3 l1_4).bind fun t668 => (phaetonlaw05_WireApart.j0 k t664 (!t668) a0_0 a0_1 a0_2 a0_3 l0_4 a1_0 a1_1 a1_2 a1_3 l1_4)) else (phaetonlaw05_WireApart.j0 k t664 true a0_0 a0_1 a0_2 a0_3 l0_4 a1_0 a1_1 a1_2 a1_3 l1_4)) = some r := H
        have A20 := Aside0.mk A200
        clear A200
        by_cases c21 : t667 = true
        · subst c21
          have H1 : ((phaetonref04_Right.f k a1_0 a1_1 a1_2 a1_3 l1_4).bind fun t668 => (phaetonlaw05_WireApart.j0 k t664 (!t668) a0_0 a0_1 a0_2 a0_3 l0_4 a1_0 a1_1 a1_2 a1_3 l1_4)) = some r := by rw [if_pos rfl] at H; exact H
          clear H
          have H := H1
          clear H1
          replace H := Option.bind_eq_some_iff.mp H
          obtain ⟨t668, A220, H⟩ := H
          replace H : (phaetonlaw05_WireApart.j0 k t664 (!t668) a0_0 a0_1 a0_2 a0_3 l0_4 a1_0 a1_1 a1_2 a1_3 l1_4) = some r := H
          have A22 := Aside0.mk A220
          clear A220
          have H' := Aside0.mk H
          clear H
          have hnb23 := NB662_663.out
          have hnc23 := NB663_662.out
          have hcz24_0 : w7.cell? ⟨gb662, 0, none⟩ = some (.bool a0_0) := (blk_cell BK662.out 0).trans rfl
          have hcz24_1 : w7.cell? ⟨gb662, 1, none⟩ = some (.int .i64 a0_1) := (blk_cell BK662.out 1).trans rfl
          have hcz24_2 : w7.cell? ⟨gb662, 2, none⟩ = some (.bool a0_2) := (blk_cell BK662.out 2).trans rfl
          have hcz24_3 : w7.cell? ⟨gb662, 3, none⟩ = some (.int .i64 a0_3) := (blk_cell BK662.out 3).trans rfl
          have hcz24_4 : w7.cell? ⟨gb662, 4, none⟩ = some (.slice A0_4 l0_4.length c0_4) := (blk_cell BK662.out 4).trans rfl
          have hfz24_0 := blk_frozen BK662.out 0
          have hfz24_1 := blk_frozen BK662.out 1
          have hfz24_2 := blk_frozen BK662.out 2
          have hfz24_3 := blk_frozen BK662.out 3
          have hfz24_4 := blk_frozen BK662.out 4
          go_wp2_with (first | ((with_reducible refine gate_store (t := 24) (p := 3) rfl ?_); refine HW.store_box2 rfl rfl 24 _ _ rfl rfl rfl BK663.out rfl (by kernel_rfl) (by intro q hq; simp only [List.mem_cons, List.not_mem_nil, or_false] at hq; rcases hq with rfl | rfl | rfl | rfl | rfl <;> rfl) ?_; intro w1_ hw1_ hk1_; simp only [List.toList_toArray, World.setCells, Nat.zero_add, Nat.reduceAdd] at hw1_; subst hw1_; have hcb663_0 := (blk_cell hk1_ 0).trans rfl; have hfb663_0 := blk_frozen hk1_ 0; have hcb663_1 := (blk_cell hk1_ 1).trans rfl; have hfb663_1 := blk_frozen hk1_ 1; have hcb663_2 := (blk_cell hk1_ 2).trans rfl; have hfb663_2 := blk_frozen hk1_ 2; have hcb663_3 := (blk_cell hk1_ 3).trans rfl; have hfb663_3 := blk_frozen hk1_ 3; have hcb663_4 := (blk_cell hk1_ 4).trans rfl; have hfb663_4 := blk_frozen hk1_ 4; clear hk1_) | ((with_reducible refine gate_store (t := 24) (p := 2) rfl ?_); refine HW.store_box2 rfl rfl 24 _ _ rfl rfl rfl BK662.out rfl (by kernel_rfl) (by intro q hq; simp only [List.mem_cons, List.not_mem_nil, or_false] at hq; rcases hq with rfl | rfl | rfl | rfl | rfl <;> rfl) ?_; intro w1_ hw1_ hk1_; simp only [List.toList_toArray, World.setCells, Nat.zero_add, Nat.reduceAdd] at hw1_; subst hw1_; have hcb662_0 := (blk_cell hk1_ 0).trans rfl; have hfb662_0 := blk_frozen hk1_ 0; have hcb662_1 := (blk_cell hk1_ 1).trans rfl; have hfb662_1 := blk_frozen hk1_ 1; have hcb662_2 := (blk_cell hk1_ 2).trans rfl; have hfb662_2 := blk_frozen hk1_ 2; have hcb662_3 := (blk_cell hk1_ 3).trans rfl; have hfb662_3 := blk_frozen hk1_ 3; have hcb662_4 := (blk_cell hk1_ 4).trans rfl; have hfb662_4 := blk_frozen hk1_ 4; clear hk1_) | ((with_reducible refine gate_callee (f := 11) rfl ?_); refine goesL_ (some 11) rfl rfl Try.func11 (by kernel_rfl) rfl #[.agg #[.bool a0_0, .int .i64 a0_1, .bool a0_2, .int .i64 a0_3, .slice A0_4 l0_4.length c0_4]] rfl (by (try simp only [List.map_toArray, List.map_cons, List.map_nil]); first | done | rfl | (simp only [List.length_drop, List.length_take]; rfl)) ?_; (with_reducible refine (phaetonlaw04_Great.calls a0_0 a0_1 a0_2 a0_3 _ _ l0_4 false _ ?side1 ?side2 A8.out).mono ?_); (case side1 => repeat (first | exact (Kd.C_below HR0_4.out HB.out) | (with_reducible refine Kd.C_alloc ?_ _) | (with_reducible refine Kd.C_drewN ?_ _) | (with_reducible refine Kd.C_drew ?_))); (case side2 => exact HC0_4.out); rintro e w25 ⟨rfl, hb⟩; refine ⟨_, rfl, ?_⟩; have n0_ := Aside0.mk (blk_below (g := gb662) (o := .cells #[.bool a0_0, .int .i64 a0_1, .bool a0_2, .int .i64 a0_3, .slice A0_4 l0_4.length c0_4] 24 (0, 0)) (by (with_reducible repeat (first | refine blk_drewN ?_ _ | refine blk_drew ?_ | refine blk_alloc ?_ _)); exact BK662.out) hb); have n1_ := Aside0.mk (blk_below (g := gb663) (o := .cells #[.bool a1_0, .int .i64 a1_1, .bool a1_2, .int .i64 a1_3, .slice A1_4 l1_4.length c1_4] 24 (0, 0)) (by (with_reducible repeat (first | refine blk_drewN ?_ _ | refine blk_drew ?_ | refine blk_alloc ?_ _)); exact BK663.out) hb); have n2_ := Aside0.mk (below_step (by repeat (first | (with_reducible first | exact HB.out | apply below_alloc | apply pw_below_drewN | apply below_drew1 | refine below_set ?_ GE662.out | refine below_set ?_ GE663.out) | exact HB.out)) hb); clear BK662; clear BK663; clear HB; have BK662 := n0_; have BK663 := n1_; have HB := n2_; clear n0_ n1_ n2_; (try clear hb); (try clear hb2); (try clear hk); (try clear hi); have hcz26_0 : w25.cell? ⟨gb663, 0, none⟩ = some (.bool a1_0) := (blk_cell BK663.out 0).trans rfl; have hcz26_1 : w25.cell? ⟨gb663, 1, none⟩ = some (.int .i64 a1_1) := (blk_cell BK663.out 1).trans rfl; have hcz26_2 : w25.cell? ⟨gb663, 2, none⟩ = some (.bool a1_2) := (blk_cell BK663.out 2).trans rfl; have hcz26_3 : w25.cell? ⟨gb663, 3, none⟩ = some (.int .i64 a1_3) := (blk_cell BK663.out 3).trans rfl; have hcz26_4 : w25.cell? ⟨gb663, 4, none⟩ = some (.slice A1_4 l1_4.length c1_4) := (blk_cell BK663.out 4).trans rfl; have hfz26_0 := blk_frozen BK663.out 0; have hfz26_1 := blk_frozen BK663.out 1; have hfz26_2 := blk_frozen BK663.out 2; have hfz26_3 := blk_frozen BK663.out 3; have hfz26_4 := blk_frozen BK663.out 4) | (go_at_call 11; (with_reducible refine (phaetonlaw04_Great.calls a1_0 a1_1 a1_2 a1_3 _ _ l1_4 false _ ?side1 ?side2 A13.out).mono ?_); (case side1 => repeat (first | exact (Kd.C_below HR1_4.out HB.out) | (with_reducible refine Kd.C_alloc ?_ _) | (with_reducible refine Kd.C_drewN ?_ _) | (with_reducible refine Kd.C_drew ?_))); (case side2 => exact HC1_4.out); rintro e w27 ⟨rfl, hb⟩; have n0_ := Aside0.mk (blk_below (g := gb662) (o := .cells #[.bool a0_0, .int .i64 a0_1, .bool a0_2, .int .i64 a0_3, .slice A0_4 l0_4.length c0_4] 24 (0, 0)) (by (with_reducible repeat (first | refine blk_drewN ?_ _ | refine blk_drew ?_ | refine blk_alloc ?_ _)); exact BK662.out) hb); have n1_ := Aside0.mk (blk_below (g := gb663) (o := .cells #[.bool a1_0, .int .i64 a1_1, .bool a1_2, .int .i64 a1_3, .slice A1_4 l1_4.length c1_4] 24 (0, 0)) (by (with_reducible repeat (first | refine blk_drewN ?_ _ | refine blk_drew ?_ | refine blk_alloc ?_ _)); exact BK663.out) hb); have n2_ := Aside0.mk (below_step (by repeat (first | (with_reducible first | exact HB.out | apply below_alloc | apply pw_below_drewN | apply below_drew1 | refine below_set ?_ GE662.out | refine below_set ?_ GE663.out) | exact HB.out)) hb); clear BK662; clear BK663; clear HB; have BK662 := n0_; have BK663 := n1_; have HB := n2_; clear n0_ n1_ n2_; (try clear hb); (try clear hb2); (try clear hk); (try clear hi); have hcz28_0 : w27.cell? ⟨gb662, 0, none⟩ = some (.bool a0_0) := (blk_cell BK662.out 0).trans rfl; have hcz28_1 : w27.cell? ⟨gb662, 1, none⟩ = some (.int .i64 a0_1) := (blk_cell BK662.out 1).trans rfl; have hcz28_2 : w27.cell? ⟨gb662, 2, none⟩ = some (.bool a0_2) := (blk_cell BK662.out 2).trans rfl; have hcz28_3 : w27.cell? ⟨gb662, 3, none⟩ = some (.int .i64 a0_3) := (blk_cell BK662.out 3).trans rfl; have hcz28_4 : w27.cell? ⟨gb662, 4, none⟩ = some (.slice A0_4 l0_4.length c0_4) := (blk_cell BK662.out 4).trans rfl; have hfz28_0 := blk_frozen BK662.out 0; have hfz28_1 := blk_frozen BK662.out 1; have hfz28_2 := blk_frozen BK662.out 2; have hfz28_3 := blk_frozen BK662.out 3; have hfz28_4 := blk_frozen BK662.out 4) | (go_at_call 12; (with_reducible refine (phaetonref04_Right.calls k a0_0 a0_1 a0_2 a0_3 _ _ l0_4 true _ ?side1 ?side2 A20.out).mono ?_); (case side1 => repeat (first | exact (Kd.C_below HR0_4.out HB.out) | (with_reducible refine Kd.C_alloc ?_ _) | (with_reducible refine Kd.C_drewN ?_ _) | (with_reducible refine Kd.C_drew ?_))); (case side2 => exact HC0_4.out); rintro e w29 ⟨rfl, hb⟩; have n0_ := Aside0.mk (blk_below (g := gb662) (o := .cells #[.bool a0_0, .int .i64 a0_1, .bool a0_2, .int .i64 a0_3, .slice A0_4 l0_4.length c0_4] 24 (0, 0)) (by (with_reducible repeat (first | refine blk_drewN ?_ _ | refine blk_drew ?_ | refine blk_alloc ?_ _)); exact BK662.out) hb); have n1_ := Aside0.mk (blk_below (g := gb663) (o := .cells #[.bool a1_0, .int .i64 a1_1, .bool a1_2, .int .i64 a1_3, .slice A1_4 l1_4.length c1_4] 24 (0, 0)) (by (with_reducible repeat (first | refine blk_drewN ?_ _ | refine blk_drew ?_ | refine blk_alloc ?_ _)); exact BK663.out) hb); have n2_ := Aside0.mk (below_step (by repeat (first | (with_reducible first | exact HB.out | apply below_alloc | apply pw_below_drewN | apply below_drew1 | refine below_set ?_ GE662.out | refine below_set ?_ GE663.out) | exact HB.out)) hb); clear BK662; clear BK663; clear HB; have BK662 := n0_; have BK663 := n1_; have HB := n2_; clear n0_ n1_ n2_; (try clear hb); (try clear hb2); (try clear hk); (try clear hi); have hcz30_0 : w29.cell? ⟨gb663, 0, none⟩ = some (.bool a1_0) := (blk_cell BK663.out 0).trans rfl; have hcz30_1 : w29.cell? ⟨gb663, 1, none⟩ = some (.int .i64 a1_1) := (blk_cell BK663.out 1).trans rfl; have hcz30_2 : w29.cell? ⟨gb663, 2, none⟩ = some (.bool a1_2) := (blk_cell BK663.out 2).trans rfl; have hcz30_3 : w29.cell? ⟨gb663, 3, none⟩ = some (.int .i64 a1_3) := (blk_cell BK663.out 3).trans rfl; have hcz30_4 : w29.cell? ⟨gb663, 4, none⟩ = some (.slice A1_4 l1_4.length c1_4) := (blk_cell BK663.out 4).trans rfl; have hfz30_0 := blk_frozen BK663.out 0; have hfz30_1 := blk_frozen BK663.out 1; have hfz30_2 := blk_frozen BK663.out 2; have hfz30_3 := blk_frozen BK663.out 3; have hfz30_4 := blk_frozen BK663.out 4) | (go_at_call 12; (with_reducible refine (phaetonref04_Right.calls k a1_0 a1_1 a1_2 a1_3 _ _ l1_4 t668 _ ?side1 ?side2 A22.out).mono ?_); (case side1 => repeat (first | exact (Kd.C_below HR1_4.out HB.out) | (with_reducible refine Kd.C_alloc ?_ _) | (with_reducible refine Kd.C_drewN ?_ _) | (with_reducible refine Kd.C_drew ?_))); (case side2 => exact HC1_4.out); rintro e w31 ⟨rfl, hb⟩; have n0_ := Aside0.mk (blk_below (g := gb662) (o := .cells #[.bool a0_0, .int .i64 a0_1, .bool a0_2, .int .i64 a0_3, .slice A0_4 l0_4.length c0_4] 24 (0, 0)) (by (with_reducible repeat (first | refine blk_drewN ?_ _ | refine blk_drew ?_ | refine blk_alloc ?_ _)); exact BK662.out) hb); have n1_ := Aside0.mk (blk_below (g := gb663) (o := .cells #[.bool a1_0, .int .i64 a1_1, .bool a1_2, .int .i64 a1_3, .slice A1_4 l1_4.length c1_4] 24 (0, 0)) (by (with_reducible repeat (first | refine blk_drewN ?_ _ | refine blk_drew ?_ | refine blk_alloc ?_ _)); exact BK663.out) hb); have n2_ := Aside0.mk (below_step (by repeat (first | (with_reducible first | exact HB.out | apply below_alloc | apply pw_below_drewN | apply below_drew1 | refine below_set ?_ GE662.out | refine below_set ?_ GE663.out) | exact HB.out)) hb); clear BK662; clear BK663; clear HB; have BK662 := n0_; have BK663 := n1_; have HB := n2_; clear n0_ n1_ n2_; (try clear hb); (try clear hb2); (try clear hk); (try clear hi)))
          go_meet
          case rel => exact ⟨_, (!t668), (by first | rfl | (simp; done) | (simp [*]; done)), H', ⟨by first | omega | exact Nat.le_refl _⟩, ⟨by (with_reducible repeat (first | refine blk_drewN ?_ _ | refine blk_drew ?_ | refine blk_alloc ?_ _)); exact BK662.out⟩, ⟨by (with_reducible repeat (first | refine blk_drewN ?_ _ | refine blk_drew ?_ | refine blk_alloc ?_ _)); exact BK663.out⟩, ⟨by repeat (first | (with_reducible first | exact HB.out | apply below_alloc | apply pw_below_drewN | apply below_drew1 | refine below_set ?_ GE662.out | refine below_set ?_ GE663.out) | exact HB.out)⟩⟩
        · replace c21 := Bool.eq_false_iff.mpr c21
          subst c21
          have H1 : (phaetonlaw05_WireApart.j0 k t664 true a0_0 a0_1 a0_2 a0_3 l0_4 a1_0 a1_1 a1_2 a1_3 l1_4) = some r := by rw [if_neg (show ¬ (false = true) by decide)] at H; exact H
          clear H
          have H := H1
          clear H1
          have H' := Aside0.mk H
          clear H
          have hnb32 := NB662_663.out
          have hnc32 := NB663_662.out
          have hcz33_0 : w7.cell? ⟨gb662, 0, none⟩ = some (.bool a0_0) := (blk_cell BK662.out 0).trans rfl
          have hcz33_1 : w7.cell? ⟨gb662, 1, none⟩ = some (.int .i64 a0_1) := (blk_cell BK662.out 1).trans rfl
          have hcz33_2 : w7.cell? ⟨gb662, 2, none⟩ = some (.bool a0_2) := (blk_cell BK662.out 2).trans rfl
          have hcz33_3 : w7.cell? ⟨gb662, 3, none⟩ = some (.int .i64 a0_3) := (blk_cell BK662.out 3).trans rfl
          have hcz33_4 : w7.cell? ⟨gb662, 4, none⟩ = some (.slice A0_4 l0_4.length c0_4) := (blk_cell BK662.out 4).trans rfl
          have hfz33_0 := blk_frozen BK662.out 0
          have hfz33_1 := blk_frozen BK662.out 1
          have hfz33_2 := blk_frozen BK662.out 2
          have hfz33_3 := blk_frozen BK662.out 3
          have hfz33_4 := blk_frozen BK662.out 4
          go_wp2_with (first | ((with_reducible refine gate_store (t := 24) (p := 3) rfl ?_); refine HW.store_box2 rfl rfl 24 _ _ rfl rfl rfl BK663.out rfl (by kernel_rfl) (by intro q hq; simp only [List.mem_cons, List.not_mem_nil, or_false] at hq; rcases hq with rfl | rfl | rfl | rfl | rfl <;> rfl) ?_; intro w1_ hw1_ hk1_; simp only [List.toList_toArray, World.setCells, Nat.zero_add, Nat.reduceAdd] at hw1_; subst hw1_; have hcb663_0 := (blk_cell hk1_ 0).trans rfl; have hfb663_0 := blk_frozen hk1_ 0; have hcb663_1 := (blk_cell hk1_ 1).trans rfl; have hfb663_1 := blk_frozen hk1_ 1; have hcb663_2 := (blk_cell hk1_ 2).trans rfl; have hfb663_2 := blk_frozen hk1_ 2; have hcb663_3 := (blk_cell hk1_ 3).trans rfl; have hfb663_3 := blk_frozen hk1_ 3; have hcb663_4 := (blk_cell hk1_ 4).trans rfl; have hfb663_4 := blk_frozen hk1_ 4; clear hk1_) | ((with_reducible refine gate_store (t := 24) (p := 2) rfl ?_); refine HW.store_box2 rfl rfl 24 _ _ rfl rfl rfl BK662.out rfl (by kernel_rfl) (by intro q hq; simp only [List.mem_cons, List.not_mem_nil, or_false] at hq; rcases hq with rfl | rfl | rfl | rfl | rfl <;> rfl) ?_; intro w1_ hw1_ hk1_; simp only [List.toList_toArray, World.setCells, Nat.zero_add, Nat.reduceAdd] at hw1_; subst hw1_; have hcb662_0 := (blk_cell hk1_ 0).trans rfl; have hfb662_0 := blk_frozen hk1_ 0; have hcb662_1 := (blk_cell hk1_ 1).trans rfl; have hfb662_1 := blk_frozen hk1_ 1; have hcb662_2 := (blk_cell hk1_ 2).trans rfl; have hfb662_2 := blk_frozen hk1_ 2; have hcb662_3 := (blk_cell hk1_ 3).trans rfl; have hfb662_3 := blk_frozen hk1_ 3; have hcb662_4 := (blk_cell hk1_ 4).trans rfl; have hfb662_4 := blk_frozen hk1_ 4; clear hk1_) | ((with_reducible refine gate_callee (f := 11) rfl ?_); refine goesL_ (some 11) rfl rfl Try.func11 (by kernel_rfl) rfl #[.agg #[.bool a0_0, .int .i64 a0_1, .bool a0_2, .int .i64 a0_3, .slice A0_4 l0_4.length c0_4]] rfl (by (try simp only [List.map_toArray, List.map_cons, List.map_nil]); first | done | rfl | (simp only [List.length_drop, List.length_take]; rfl)) ?_; (with_reducible refine (phaetonlaw04_Great.calls a0_0 a0_1 a0_2 a0_3 _ _ l0_4 false _ ?side1 ?side2 A8.out).mono ?_); (case side1 => repeat (first | exact (Kd.C_below HR0_4.out HB.out) | (with_reducible refine Kd.C_alloc ?_ _) | (with_reducible refine Kd.C_drewN ?_ _) | (with_reducible refine Kd.C_drew ?_))); (case side2 => exact HC0_4.out); rintro e w34 ⟨rfl, hb⟩; refine ⟨_, rfl, ?_⟩; have n0_ := Aside0.mk (blk_below (g := gb662) (o := .cells #[.bool a0_0, .int .i64 a0_1, .bool a0_2, .int .i64 a0_3, .slice A0_4 l0_4.length c0_4] 24 (0, 0)) (by (with_reducible repeat (first | refine blk_drewN ?_ _ | refine blk_drew ?_ | refine blk_alloc ?_ _)); exact BK662.out) hb); have n1_ := Aside0.mk (blk_below (g := gb663) (o := .cells #[.bool a1_0, .int .i64 a1_1, .bool a1_2, .int .i64 a1_3, .slice A1_4 l1_4.length c1_4] 24 (0, 0)) (by (with_reducible repeat (first | refine blk_drewN ?_ _ | refine blk_drew ?_ | refine blk_alloc ?_ _)); exact BK663.out) hb); have n2_ := Aside0.mk (below_step (by repeat (first | (with_reducible first | exact HB.out | apply below_alloc | apply pw_below_drewN | apply below_drew1 | refine below_set ?_ GE662.out | refine below_set ?_ GE663.out) | exact HB.out)) hb); clear BK662; clear BK663; clear HB; have BK662 := n0_; have BK663 := n1_; have HB := n2_; clear n0_ n1_ n2_; (try clear hb); (try clear hb2); (try clear hk); (try clear hi); have hcz35_0 : w34.cell? ⟨gb663, 0, none⟩ = some (.bool a1_0) := (blk_cell BK663.out 0).trans rfl; have hcz35_1 : w34.cell? ⟨gb663, 1, none⟩ = some (.int .i64 a1_1) := (blk_cell BK663.out 1).trans rfl; have hcz35_2 : w34.cell? ⟨gb663, 2, none⟩ = some (.bool a1_2) := (blk_cell BK663.out 2).trans rfl; have hcz35_3 : w34.cell? ⟨gb663, 3, none⟩ = some (.int .i64 a1_3) := (blk_cell BK663.out 3).trans rfl; have hcz35_4 : w34.cell? ⟨gb663, 4, none⟩ = some (.slice A1_4 l1_4.length c1_4) := (blk_cell BK663.out 4).trans rfl; have hfz35_0 := blk_frozen BK663.out 0; have hfz35_1 := blk_frozen BK663.out 1; have hfz35_2 := blk_frozen BK663.out 2; have hfz35_3 := blk_frozen BK663.out 3; have hfz35_4 := blk_frozen BK663.out 4) | (go_at_call 11; (with_reducible refine (phaetonlaw04_Great.calls a1_0 a1_1 a1_2 a1_3 _ _ l1_4 false _ ?side1 ?side2 A13.out).mono ?_); (case side1 => repeat (first | exact (Kd.C_below HR1_4.out HB.out) | (with_reducible refine Kd.C_alloc ?_ _) | (with_reducible refine Kd.C_drewN ?_ _) | (with_reducible refine Kd.C_drew ?_))); (case side2 => exact HC1_4.out); rintro e w36 ⟨rfl, hb⟩; have n0_ := Aside0.mk (blk_below (g := gb662) (o := .cells #[.bool a0_0, .int .i64 a0_1, .bool a0_2, .int .i64 a0_3, .slice A0_4 l0_4.length c0_4] 24 (0, 0)) (by (with_reducible repeat (first | refine blk_drewN ?_ _ | refine blk_drew ?_ | refine blk_alloc ?_ _)); exact BK662.out) hb); have n1_ := Aside0.mk (blk_below (g := gb663) (o := .cells #[.bool a1_0, .int .i64 a1_1, .bool a1_2, .int .i64 a1_3, .slice A1_4 l1_4.length c1_4] 24 (0, 0)) (by (with_reducible repeat (first | refine blk_drewN ?_ _ | refine blk_drew ?_ | refine blk_alloc ?_ _)); exact BK663.out) hb); have n2_ := Aside0.mk (below_step (by repeat (first | (with_reducible first | exact HB.out | apply below_alloc | apply pw_below_drewN | apply below_drew1 | refine below_set ?_ GE662.out | refine below_set ?_ GE663.out) | exact HB.out)) hb); clear BK662; clear BK663; clear HB; have BK662 := n0_; have BK663 := n1_; have HB := n2_; clear n0_ n1_ n2_; (try clear hb); (try clear hb2); (try clear hk); (try clear hi); have hcz37_0 : w36.cell? ⟨gb662, 0, none⟩ = some (.bool a0_0) := (blk_cell BK662.out 0).trans rfl; have hcz37_1 : w36.cell? ⟨gb662, 1, none⟩ = some (.int .i64 a0_1) := (blk_cell BK662.out 1).trans rfl; have hcz37_2 : w36.cell? ⟨gb662, 2, none⟩ = some (.bool a0_2) := (blk_cell BK662.out 2).trans rfl; have hcz37_3 : w36.cell? ⟨gb662, 3, none⟩ = some (.int .i64 a0_3) := (blk_cell BK662.out 3).trans rfl; have hcz37_4 : w36.cell? ⟨gb662, 4, none⟩ = some (.slice A0_4 l0_4.length c0_4) := (blk_cell BK662.out 4).trans rfl; have hfz37_0 := blk_frozen BK662.out 0; have hfz37_1 := blk_frozen BK662.out 1; have hfz37_2 := blk_frozen BK662.out 2; have hfz37_3 := blk_frozen BK662.out 3; have hfz37_4 := blk_frozen BK662.out 4) | (go_at_call 12; (with_reducible refine (phaetonref04_Right.calls k a0_0 a0_1 a0_2 a0_3 _ _ l0_4 false _ ?side1 ?side2 A20.out).mono ?_); (case side1 => repeat (first | exact (Kd.C_below HR0_4.out HB.out) | (with_reducible refine Kd.C_alloc ?_ _) | (with_reducible refine Kd.C_drewN ?_ _) | (with_reducible refine Kd.C_drew ?_))); (case side2 => exact HC0_4.out); rintro e w38 ⟨rfl, hb⟩; have n0_ := Aside0.mk (blk_below (g := gb662) (o := .cells #[.bool a0_0, .int .i64 a0_1, .bool a0_2, .int .i64 a0_3, .slice A0_4 l0_4.length c0_4] 24 (0, 0)) (by (with_reducible repeat (first | refine blk_drewN ?_ _ | refine blk_drew ?_ | refine blk_alloc ?_ _)); exact BK662.out) hb); have n1_ := Aside0.mk (blk_below (g := gb663) (o := .cells #[.bool a1_0, .int .i64 a1_1, .bool a1_2, .int .i64 a1_3, .slice A1_4 l1_4.length c1_4] 24 (0, 0)) (by (with_reducible repeat (first | refine blk_drewN ?_ _ | refine blk_drew ?_ | refine blk_alloc ?_ _)); exact BK663.out) hb); have n2_ := Aside0.mk (below_step (by repeat (first | (with_reducible first | exact HB.out | apply below_alloc | apply pw_below_drewN | apply below_drew1 | refine below_set ?_ GE662.out | refine below_set ?_ GE663.out) | exact HB.out)) hb); clear BK662; clear BK663; clear HB; have BK662 := n0_; have BK663 := n1_; have HB := n2_; clear n0_ n1_ n2_; (try clear hb); (try clear hb2); (try clear hk); (try clear hi)))
          go_meet
          case rel => exact ⟨_, (true), (by first | rfl | (simp; done) | (simp [*]; done)), H', ⟨by first | omega | exact Nat.le_refl _⟩, ⟨by (with_reducible repeat (first | refine blk_drewN ?_ _ | refine blk_drew ?_ | refine blk_alloc ?_ _)); exact BK662.out⟩, ⟨by (with_reducible repeat (first | refine blk_drewN ?_ _ | refine blk_drew ?_ | refine blk_alloc ?_ _)); exact BK663.out⟩, ⟨by repeat (first | (with_reducible first | exact HB.out | apply below_alloc | apply pw_below_drewN | apply below_drew1 | refine below_set ?_ GE662.out | refine below_set ?_ GE663.out) | exact HB.out)⟩⟩
  case rest =>
    clear HC4
    try clear c1
    try clear c2
    try clear p2
    try clear c3
    try clear c8
    try clear c9
    try clear c10
    try clear c11
    try clear c14
    try clear c15
    try clear c21
    try clear c23
    try clear c32
    try clear hcz11_0
    try clear hcz11_1
    try clear hcz11_2
    try clear hcz11_3
    try clear hcz11_4
    try clear hcz16_0
    try clear hcz16_1
    try clear hcz16_2
    try clear hcz16_3
    try clear hcz16_4
    try clear hcz18_0
    try clear hcz18_1
    try clear hcz18_2
    try clear hcz18_3
    try clear hcz18_4
    try clear hcz24_0
    try clear hcz24_1
    try clear hcz24_2
    try clear hcz24_3
    try clear hcz24_4
    try clear hcz26_0
    try clear hcz26_1
    try clear hcz26_2
    try clear hcz26_3
    try clear hcz26_4
    try clear hcz28_0
    try clear hcz28_1
    try clear hcz28_2
    try clear hcz28_3
    try clear hcz28_4
    try clear hcz30_0
    try clear hcz30_1
    try clear hcz30_2
    try clear hcz30_3
    try clear hcz30_4
    try clear hcz33_0
    try clear hcz33_1
    try clear hcz33_2
    try clear hcz33_3
    try clear hcz33_4
    try clear hcz35_0
    try clear hcz35_1
    try clear hcz35_2
    try clear hcz35_3
    try clear hcz35_4
    try clear hcz37_0
    try clear hcz37_1
    try clear hcz37_2
    try clear hcz37_3
    try clear hcz37_4
    try clear hfz11_0
    try clear hfz11_1
    try clear hfz11_2
    try clear hfz11_3
    try clear hfz11_4
    try clear hfz16_0
    try clear hfz16_1
    try clear hfz16_2
    try clear hfz16_3
    try clear hfz16_4
    try clear hfz18_0
    try clear hfz18_1
    try clear hfz18_2
    try clear hfz18_3
    try clear hfz18_4
    try clear hfz24_0
    try clear hfz24_1
    try clear hfz24_2
    try clear hfz24_3
    try clear hfz24_4
    try clear hfz26_0
    try clear hfz26_1
    try clear hfz26_2
    try clear hfz26_3
    try clear hfz26_4
    try clear hfz28_0
    try clear hfz28_1
    try clear hfz28_2
    try clear hfz28_3
    try clear hfz28_4
    try clear hfz30_0
    try clear hfz30_1
    try clear hfz30_2
    try clear hfz30_3
    try clear hfz30_4
    try clear hfz33_0
    try clear hfz33_1
    try clear hfz33_2
    try clear hfz33_3
    try clear hfz33_4
    try clear hfz35_0
    try clear hfz35_1
    try clear hfz35_2
    try clear hfz35_3
    try clear hfz35_4
    try clear hfz37_0
    try clear hfz37_1
    try clear hfz37_2
    try clear hfz37_3
    try clear hfz37_4
    obtain ⟨kq, x25_3, rfl, HA, HJ3, BK662, BK663, HB⟩ := hcut
    cases kq with
    | zero => exact absurd HA.out (by simp [phaetonlaw05_WireApart.j0])
    | succ kj3 =>
      have H := HA.out
      clear HA
      simp only [phaetonlaw05_WireApart.j0] at H
      by_cases c39 : x25_3 = true
      · subst c39
        have H1 : (if t664 = true then (some true) else (none)) = some r := by rw [if_pos rfl] at H; exact H
        clear H
        have H := H1
        clear H1
        by_cases c40 : t664 = true
        · subst c40
          have H1 : (some true) = some r := by rw [if_pos rfl] at H; exact H
          clear H
          have H := H1
          clear H1
          obtain rfl := Option.some.inj H
          go_wp2
          go_ret
          exact ⟨by first | rfl | (simp [errW_none, errW_some] <;> rfl) | (simp [*, errW_none, errW_some] <;> rfl), by repeat (first | (with_reducible first | exact HB.out | apply below_alloc | apply pw_below_drewN | apply below_drew1 | refine below_set ?_ GE662.out | refine below_set ?_ GE663.out) | exact HB.out)⟩
        · replace c40 := Bool.eq_false_iff.mpr c40
          subst c40
          have H1 : (none) = some r := by rw [if_neg (show ¬ (false = true) by decide)] at H; exact H
          clear H
          have H := H1
          clear H1
          exact absurd H (by simp)
      · replace c39 := Bool.eq_false_iff.mpr c39
        subst c39
        have H1 : ((wire_Bits.f a0_0 a0_1 a0_2 a0_3 l0_4).bind fun t669 => ((wire_Bits.f a1_0 a1_1 a1_2 a1_3 l1_4).bind fun t672 => (if t664 = true then (if (mn (t669.length : Int) (t672.length : Int)) ≥ 20 then (if 0 ≤ (mn (t669.length : Int) (t672.length : Int)) then (if (mn (t669.length : Int) (t672.length : Int)) ≤ (t669.length : Int) then (if (mn (t669.length : Int) (t672.length : Int)) ≤ (t672.length : Int) then ((phaetonref01_Same.f kj3 (t669.take ((mn (t669.length : Int) (t672.length : Int)) : Int).toNat) (t672.take ((mn (t669.length : Int) (t672.length : Int)) : Int).toNat)).bind fun t683 => ((phaetonref04_Same.f a0_0 a0_1 a0_2 a0_3 l0_4 a1_0 a1_1 a1_2 a1_3 l1_4).bind fun t684 => (if (t683 == t684) = true then (some true) else (none)))) else (none)) else (none)) else (none)) else (none)) else (none)))) = some r := by rw [if_neg (show ¬ (false = true) by decide)] at H; exact H
        clear H
        have H := H1
        clear H1
        replace H := Option.bind_eq_some_iff.mp H
        obtain ⟨t669, A410, H⟩ := H
        replace H : ((wire_Bits.f a1_0 a1_1 a1_2 a1_3 l1_4).bind fun t672 => (if t664 = true then (if (mn (t669.length : Int) (t672.length : Int)) ≥ 20 then (if 0 ≤ (mn (t669.length : Int) (t672.length : Int)) then (if (mn (t669.length : Int) (t672.length : Int)) ≤ (t669.length : Int) then (if (mn (t669.length : Int) (t672.length : Int)) ≤ (t672.length : Int) then ((phaetonref01_Same.f kj3 (t669.take ((mn (t669.length : Int) (t672.length : Int)) : Int).toNat) (t672.take ((mn (t669.length : Int) (t672.length : Int)) : Int).toNat)).bind fun t683 => ((phaetonref04_Same.f a0_0 a0_1 a0_2 a0_3 l0_4 a1_0 a1_1 a1_2 a1_3 l1_4).bind fun t684 => (if (t683 == t684) = true then (some true) else (none)))) else (none)) else (none)) else (none)) else (none)) else (none))) = some r := H
        have A41 := Aside0.mk A410
        clear A410
        replace H := Option.bind_eq_some_iff.mp H
        obtain ⟨t672, A420, H⟩ := H
        replace H : (if t664 = true then (if (mn (t669.length : Int) (t672.length : Int)) ≥ 20 then (if 0 ≤ (mn (t669.length : Int) (t672.length : Int)) then (if (mn (t669.length : Int) (t672.length : Int)) ≤ (t669.length : Int) then (if (mn (t669.length : Int) (t672.length : Int)) ≤ (t672.length : Int) then ((phaetonref01_Same.f kj3 (t669.take ((mn (t669.length : Int) (t672.length : Int)) : Int).toNat) (t672.take ((mn (t669.length : Int) (t672.length : Int)) : Int).toNat)).bind fun t683 => ((phaetonref04_Same.f a0_0 a0_1 a0_2 a0_3 l0_4 a1_0 a1_1 a1_2 a1_3 l1_4).bind fun t684 => (if (t683 == t684) = true then (some true) else (none)))) else (none)) else (none)) else (none)) else (none)) else (none)) = some r := H
        have A42 := Aside0.mk A420
        clear A420
        obtain ⟨ji43, hji43⟩ : ∃ j_ : Int, (mn (t669.length : Int) (t672.length : Int)) = j_ := ⟨_, rfl⟩
        replace H : (if t664 = true then (if (ji43) ≥ 20 then (if 0 ≤ (ji43) then (if (ji43) ≤ (t669.length : Int) then (if (ji43) ≤ (t672.length : Int) then ((phaetonref01_Same.f kj3 (t669.take ((ji43) : Int).toNat) (t672.take ((ji43) : Int).toNat)).bind fun t683 => ((phaetonref04_Same.f a0_0 a0_1 a0_2 a0_3 l0_4 a1_0 a1_1 a1_2 a1_3 l1_4).bind fun t684 => (if (t683 == t684) = true then (some true) else (none)))) else (none)) else (none)) else (none)) else (none)) else (none)) = some r := by first | (rw [hji43] at H; exact H) | (simp only [hji43] at H ⊢; exact H)
        (try rw [hji43] at A41)
        (try rw [hji43] at A42)
        (try (have hji43l : 0 ≤ ji43 := by (rw [← hji43]; unfold mn; (repeat' split) <;> omega)))
        (try (have hji43m : 0 ≤ ji43 := by omega))
        have hji43_ : (if (t672.length : Int) < (t669.length : Int) then (t672.length : Int) else (t669.length : Int)) = ji43 := hji43
        have hji43n : (if t672.length < t669.length then (t672.length : Int) else (t669.length : Int)) = ji43 := by rw [← hji43_]; simp only [Int.ofNat_lt]
        by_cases c44 : t664 = true
        · subst c44
          have H1 : (if (ji43) ≥ 20 then (if 0 ≤ (ji43) then (if (ji43) ≤ (t669.length : Int) then (if (ji43) ≤ (t672.length : Int) then ((phaetonref01_Same.f kj3 (t669.take ((ji43) : Int).toNat) (t672.take ((ji43) : Int).toNat)).bind fun t683 => ((phaetonref04_Same.f a0_0 a0_1 a0_2 a0_3 l0_4 a1_0 a1_1 a1_2 a1_3 l1_4).bind fun t684 => (if (t683 == t684) = true then (some true) else (none)))) else (none)) else (none)) else (none)) else (none)) = some r := by rw [if_pos rfl] at H; exact H
          clear H
          have H := H1
          clear H1
          by_cases c45 : (ji43) ≥ 20
          · rw [if_pos c45] at H
            have c45b0 : decide (20 ≤ (ji43)) = true := decide_eq_true c45
            clear c45
            by_cases c46 : 0 ≤ (ji43)
            · rw [if_pos c46] at H
              have c46b0 := eq_true c46
              have c46b1 : decide (0 ≤ (ji43)) = true := decide_eq_true c46
              have c46m : max (ji43) 0 = (ji43) := by omega
              clear c46
              by_cases c47 : (ji43) ≤ (t669.length : Int)
              · rw [if_pos c47] at H
                have c47b0 := eq_true c47
                have c47b1 : decide ((ji43) ≤ (t669.length : Int)) = true := decide_eq_true c47
                clear c47
                obtain ⟨y675, hy675⟩ : ∃ y_ : List Int, y_ = (t669.take ((ji43) : Int).toNat) := ⟨_, rfl⟩
                replace H : (if (ji43) ≤ (t672.length : Int) then ((phaetonref01_Same.f kj3 y675 (t672.take ((ji43) : Int).toNat)).bind fun t683 => ((phaetonref04_Same.f a0_0 a0_1 a0_2 a0_3 l0_4 a1_0 a1_1 a1_2 a1_3 l1_4).bind fun t684 => (if (t683 == t684) = true then (some true) else (none)))) else (none)) = some r := by first | (rw [hy675]; with_reducible exact H) | (have H2_ := (Option.bind_some _ _).symm.trans H; rw [hy675]; with_reducible exact H2_) | (have H2_ := (Option.bind_some _ _).symm.trans H; with_reducible exact H2_) | with_reducible exact H | (rw [hy675]; exact H) | exact H
                have Ny675 := Aside0.mk hy675
                clear hy675
                have c48b0 := eq_true (of_decide_eq_true (by first | (with_reducible assumption) | assumption) : 0 ≤ (ji43))
                by_cases c49 : (ji43) ≤ (t672.length : Int)
                · rw [if_pos c49] at H
                  have c49b0 := eq_true c49
                  have c49b1 : decide ((ji43) ≤ (t672.length : Int)) = true := decide_eq_true c49
                  clear c49
                  obtain ⟨y679, hy679⟩ : ∃ y_ : List Int, y_ = (t672.take ((ji43) : Int).toNat) := ⟨_, rfl⟩
                  replace H : ((phaetonref01_Same.f kj3 y675 y679).bind fun t683 => ((phaetonref04_Same.f a0_0 a0_1 a0_2 a0_3 l0_4 a1_0 a1_1 a1_2 a1_3 l1_4).bind fun t684 => (if (t683 == t684) = true then (some true) else (none)))) = some r := by first | (rw [hy679]; with_reducible exact H) | (have H2_ := (Option.bind_some _ _).symm.trans H; rw [hy679]; with_reducible exact H2_) | (have H2_ := (Option.bind_some _ _).symm.trans H; with_reducible exact H2_) | with_reducible exact H | (rw [hy679]; exact H) | exact H
                  have Ny679 := Aside0.mk hy679
                  clear hy679
                  replace H := Option.bind_eq_some_iff.mp H
                  obtain ⟨t683, A500, H⟩ := H
                  replace H : ((phaetonref04_Same.f a0_0 a0_1 a0_2 a0_3 l0_4 a1_0 a1_1 a1_2 a1_3 l1_4).bind fun t684 => (if (t683 == t684) = true then (some true) else (none))) = some r := H
                  have A50 := Aside0.mk A500
                  clear A500
                  replace H := Option.bind_eq_some_iff.mp H
                  obtain ⟨t684, A510, H⟩ := H
                  replace H : (if (t683 == t684) = true then (some true) else (none)) = some r := H
                  have A51 := Aside0.mk A510
                  clear A510
                  by_cases c52 : (t683 == t684) = true
                  · rw [if_pos c52] at H
                    have c52b0 : (t683 == t684) = true := c52
                    (try (have c52b1 : decide (t683 = t684) = true := by simpa using c52))
                    (try (have c52b2 : (t683 == t684) = true := by simpa using c52))
                    clear c52
                    obtain rfl := Option.some.inj H
                    have hnb53 := NB662_663.out
                    have hnc53 := NB663_662.out
                    have hcz54_0 : wc.cell? ⟨gb662, 0, none⟩ = some (.bool a0_0) := (blk_cell BK662.out 0).trans rfl
                    have hcz54_1 : wc.cell? ⟨gb662, 1, none⟩ = some (.int .i64 a0_1) := (blk_cell BK662.out 1).trans rfl
                    have hcz54_2 : wc.cell? ⟨gb662, 2, none⟩ = some (.bool a0_2) := (blk_cell BK662.out 2).trans rfl
                    have hcz54_3 : wc.cell? ⟨gb662, 3, none⟩ = some (.int .i64 a0_3) := (blk_cell BK662.out 3).trans rfl
                    have hcz54_4 : wc.cell? ⟨gb662, 4, none⟩ = some (.slice A0_4 l0_4.length c0_4) := (blk_cell BK662.out 4).trans rfl
                    have hfz54_0 := blk_frozen BK662.out 0
                    have hfz54_1 := blk_frozen BK662.out 1
                    have hfz54_2 := blk_frozen BK662.out 2
                    have hfz54_3 := blk_frozen BK662.out 3
                    have hfz54_4 := blk_frozen BK662.out 4
                    try go_wp2_with (first | ((with_reducible refine gate_store (t := 24) (p := 3) rfl ?_); refine HW.store_box2 rfl rfl 24 _ _ rfl rfl rfl BK663.out rfl (by kernel_rfl) (by intro q hq; simp only [List.mem_cons, List.not_mem_nil, or_false] at hq; rcases hq with rfl | rfl | rfl | rfl | rfl <;> rfl) ?_; intro w1_ hw1_ hk1_; simp only [List.toList_toArray, World.setCells, Nat.zero_add, Nat.reduceAdd] at hw1_; subst hw1_; have hcb663_0 := (blk_cell hk1_ 0).trans rfl; have hfb663_0 := blk_frozen hk1_ 0; have hcb663_1 := (blk_cell hk1_ 1).trans rfl; have hfb663_1 := blk_frozen hk1_ 1; have hcb663_2 := (blk_cell hk1_ 2).trans rfl; have hfb663_2 := blk_frozen hk1_ 2; have hcb663_3 := (blk_cell hk1_ 3).trans rfl; have hfb663_3 := blk_frozen hk1_ 3; have hcb663_4 := (blk_cell hk1_ 4).trans rfl; have hfb663_4 := blk_frozen hk1_ 4; clear hk1_) | ((with_reducible refine gate_store (t := 24) (p := 2) rfl ?_); refine HW.store_box2 rfl rfl 24 _ _ rfl rfl rfl BK662.out rfl (by kernel_rfl) (by intro q hq; simp only [List.mem_cons, List.not_mem_nil, or_false] at hq; rcases hq with rfl | rfl | rfl | rfl | rfl <;> rfl) ?_; intro w1_ hw1_ hk1_; simp only [List.toList_toArray, World.setCells, Nat.zero_add, Nat.reduceAdd] at hw1_; subst hw1_; have hcb662_0 := (blk_cell hk1_ 0).trans rfl; have hfb662_0 := blk_frozen hk1_ 0; have hcb662_1 := (blk_cell hk1_ 1).trans rfl; have hfb662_1 := blk_frozen hk1_ 1; have hcb662_2 := (blk_cell hk1_ 2).trans rfl; have hfb662_2 := blk_frozen hk1_ 2; have hcb662_3 := (blk_cell hk1_ 3).trans rfl; have hfb662_3 := blk_frozen hk1_ 3; have hcb662_4 := (blk_cell hk1_ 4).trans rfl; have hfb662_4 := blk_frozen hk1_ 4; clear hk1_) | ((with_reducible refine gate_callee (f := 14) rfl ?_); refine goesL_ (some 28) rfl rfl Try.func14 (by kernel_rfl) rfl #[.agg #[.bool a0_0, .int .i64 a0_1, .bool a0_2, .int .i64 a0_3, .slice A0_4 l0_4.length c0_4]] rfl (by (try simp only [List.map_toArray, List.map_cons, List.map_nil]); first | done | rfl | (simp only [List.length_drop, List.length_take]; rfl)) ?_; (with_reducible refine (wire_Bits.calls a0_0 a0_1 a0_2 a0_3 _ _ l0_4 t669 _ ?side1 ?side2 A41.out).mono ?_); (case side1 => repeat (first | exact (Kd.C_below HR0_4.out HB.out) | (with_reducible refine Kd.C_alloc ?_ _) | (with_reducible refine Kd.C_drewN ?_ _) | (with_reducible refine Kd.C_drew ?_))); (case side2 => exact HC0_4.out); rintro e w55 ⟨v670, rfl, ho0, hb⟩; refine ⟨_, rfl, ?_⟩; have n0_ := Aside0.mk (Kd.R_lower ho0 (below_size (by repeat (first | (with_reducible first | exact HB.out | apply below_alloc | apply pw_below_drewN | apply below_drew1 | refine below_set ?_ GE662.out | refine below_set ?_ GE663.out) | exact HB.out)))); have n1_ := Aside0.mk (blk_below (g := gb662) (o := .cells #[.bool a0_0, .int .i64 a0_1, .bool a0_2, .int .i64 a0_3, .slice A0_4 l0_4.length c0_4] 24 (0, 0)) (by (with_reducible repeat (first | refine blk_drewN ?_ _ | refine blk_drew ?_ | refine blk_alloc ?_ _)); exact BK662.out) hb); have n2_ := Aside0.mk (blk_below (g := gb663) (o := .cells #[.bool a1_0, .int .i64 a1_1, .bool a1_2, .int .i64 a1_3, .slice A1_4 l1_4.length c1_4] 24 (0, 0)) (by (with_reducible repeat (first | refine blk_drewN ?_ _ | refine blk_drew ?_ | refine blk_alloc ?_ _)); exact BK663.out) hb); have n3_ := Aside0.mk (below_step (by repeat (first | (with_reducible first | exact HB.out | apply below_alloc | apply pw_below_drewN | apply below_drew1 | refine below_set ?_ GE662.out | refine below_set ?_ GE663.out) | exact HB.out)) hb); clear BK662; clear BK663; clear HB; have HO671 := n0_; have BK662 := n1_; have BK663 := n2_; have HB := n3_; clear n0_ n1_ n2_ n3_; (try clear hb); (try clear hb2); (try clear hk); (try clear hi); (try clear ho0); have hcz56_0 : w55.cell? ⟨gb663, 0, none⟩ = some (.bool a1_0) := (blk_cell BK663.out 0).trans rfl; have hcz56_1 : w55.cell? ⟨gb663, 1, none⟩ = some (.int .i64 a1_1) := (blk_cell BK663.out 1).trans rfl; have hcz56_2 : w55.cell? ⟨gb663, 2, none⟩ = some (.bool a1_2) := (blk_cell BK663.out 2).trans rfl; have hcz56_3 : w55.cell? ⟨gb663, 3, none⟩ = some (.int .i64 a1_3) := (blk_cell BK663.out 3).trans rfl; have hcz56_4 : w55.cell? ⟨gb663, 4, none⟩ = some (.slice A1_4 l1_4.length c1_4) := (blk_cell BK663.out 4).trans rfl; have hfz56_0 := blk_frozen BK663.out 0; have hfz56_1 := blk_frozen BK663.out 1; have hfz56_2 := blk_frozen BK663.out 2; have hfz56_3 := blk_frozen BK663.out 3; have hfz56_4 := blk_frozen BK663.out 4) | ((with_reducible refine gate_callee (f := 14) rfl ?_); refine goesL_ (some 30) rfl rfl Try.func14 (by kernel_rfl) rfl #[.agg #[.bool a1_0, .int .i64 a1_1, .bool a1_2, .int .i64 a1_3, .slice A1_4 l1_4.length c1_4]] rfl (by (try simp only [List.map_toArray, List.map_cons, List.map_nil]); first | done | rfl | (simp only [List.length_drop, List.length_take]; rfl)) ?_; (with_reducible refine (wire_Bits.calls a1_0 a1_1 a1_2 a1_3 _ _ l1_4 t672 _ ?side1 ?side2 A42.out).mono ?_); (case side1 => repeat (first | exact (Kd.C_below HR1_4.out HB.out) | (with_reducible refine Kd.C_alloc ?_ _) | (with_reducible refine Kd.C_drewN ?_ _) | (with_reducible refine Kd.C_drew ?_))); (case side2 => exact HC1_4.out); rintro e w57 ⟨v673, rfl, ho0, hb⟩; refine ⟨_, rfl, ?_⟩; have n0_ := Aside0.mk (Kd.R_elder' (by (with_reducible repeat (first | apply Kd.R_alloc | apply Kd.R_drewN | apply Kd.R_drew)); exact HO671.out) (Kd.R_base ho0) hb); have n1_ := Aside0.mk (Kd.R_lower (Kd.R_new' ho0 (Kd.R_lt (by (with_reducible repeat (first | apply Kd.R_alloc | apply Kd.R_drewN | apply Kd.R_drew)); exact HO671.out))) (below_size (by repeat (first | (with_reducible first | exact HB.out | apply below_alloc | apply pw_below_drewN | apply below_drew1 | refine below_set ?_ GE662.out | refine below_set ?_ GE663.out) | exact HB.out)))); have n2_ := Aside0.mk (blk_below (g := gb662) (o := .cells #[.bool a0_0, .int .i64 a0_1, .bool a0_2, .int .i64 a0_3, .slice A0_4 l0_4.length c0_4] 24 (0, 0)) (by (with_reducible repeat (first | refine blk_drewN ?_ _ | refine blk_drew ?_ | refine blk_alloc ?_ _)); exact BK662.out) hb); have n3_ := Aside0.mk (blk_below (g := gb663) (o := .cells #[.bool a1_0, .int .i64 a1_1, .bool a1_2, .int .i64 a1_3, .slice A1_4 l1_4.length c1_4] 24 (0, 0)) (by (with_reducible repeat (first | refine blk_drewN ?_ _ | refine blk_drew ?_ | refine blk_alloc ?_ _)); exact BK663.out) hb); have n4_ := Aside0.mk (below_step (by repeat (first | (with_reducible first | exact HB.out | apply below_alloc | apply pw_below_drewN | apply below_drew1 | refine below_set ?_ GE662.out | refine below_set ?_ GE663.out) | exact HB.out)) hb); clear HO671; clear BK662; clear BK663; clear HB; have HO671 := n0_; have HO674 := n1_; have BK662 := n2_; have BK663 := n3_; have HB := n4_; clear n0_ n1_ n2_ n3_ n4_; (try clear hb); (try clear hb2); (try clear hk); (try clear hi); (try clear ho0); obtain ⟨Ao58, co58, eo58⟩ := Kd.R_slice HO671.out; subst eo58; obtain ⟨Ao59, co59, eo59⟩ := Kd.R_slice HO674.out; subst eo59))
                    have n0_ := Aside0.mk (Kd.R_drew HO671.out)
                    have n1_ := Aside0.mk (Kd.R_drew HO674.out)
                    have n2_ := Aside0.mk (blk_drew BK662.out)
                    have n3_ := Aside0.mk (blk_drew BK663.out)
                    have n4_ := Aside0.mk (below_drew1 HB.out)
                    clear HO671
                    clear HO674
                    clear BK662
                    clear BK663
                    clear HB
                    have HO671 := n0_
                    have HO674 := n1_
                    have BK662 := n2_
                    have BK663 := n3_
                    have HB := n4_
                    clear n0_ n1_ n2_ n3_ n4_
                    have q61 : ((ji43) : Int) ≤ ((t669.length : Int) : Int) := of_decide_eq_true (by first | (with_reducible assumption) | assumption)
                    obtain ⟨i061, hi061, _, hsz61, _⟩ := info_parts info3
                    have hroom61 : t669.length ≤ co58 := (Kd.R_reads' HO671.out).2.1
                    have hC61 : Kd.C (Kd.int .i64) _ Ao58 t669.length t669 := (Kd.R_reads' HO671.out).2.2
                    have hcut61 := cut_to (P := Try.prog) 25 3 .i64 Try.underlying25 hi061 Ao58 t669.length co58 (ji43) (of_decide_eq_true (by first | (with_reducible assumption) | assumption)) q61 hroom61
                    have hr61 := Kd.C_take (m := ((ji43) : Int).toNat) hC61 (by omega)
                    have hy61 : y675.length = ((ji43) : Int).toNat := (by rw [Ny675.out, List.length_take]; omega)
                    rw [← Ny675.out] at hr61
                    rw [← hy61] at hcut61
                    have HR678 := Aside0.mk hr61
                    have HC678 := Aside0.mk (show y675.length ≤ co58 from by omega)
                    clear hr61 hC61 hroom61 hi061 hsz61
                    have KY61 := Aside0.mk hy61
                    clear hy61
                    have KL61 := Aside0.mk (show ((ji43) : Int).toNat ≤ t669.length from by omega)
                    replace q61 := eq_true q61
                    have q62 : ((ji43) : Int) ≤ ((t672.length : Int) : Int) := of_decide_eq_true (by first | (with_reducible assumption) | assumption)
                    obtain ⟨i062, hi062, _, hsz62, _⟩ := info_parts info3
                    have hroom62 : t672.length ≤ co59 := (Kd.R_reads' HO674.out).2.1
                    have hC62 : Kd.C (Kd.int .i64) _ Ao59 t672.length t672 := (Kd.R_reads' HO674.out).2.2
                    have hcut62 := cut_to (P := Try.prog) 25 3 .i64 Try.underlying25 hi062 Ao59 t672.length co59 (ji43) (of_decide_eq_true (by first | (with_reducible assumption) | assumption)) q62 hroom62
                    have hr62 := Kd.C_take (m := ((ji43) : Int).toNat) hC62 (by omega)
                    have hy62 : y679.length = ((ji43) : Int).toNat := (by rw [Ny679.out, List.length_take]; omega)
                    rw [← Ny679.out] at hr62
                    rw [← hy62] at hcut62
                    have HR682 := Aside0.mk hr62
                    have HC682 := Aside0.mk (show y679.length ≤ co59 from by omega)
                    clear hr62 hC62 hroom62 hi062 hsz62
                    have KY62 := Aside0.mk hy62
                    clear hy62
                    have KL62 := Aside0.mk (show ((ji43) : Int).toNat ≤ t672.length from by omega)
                    replace q62 := eq_true q62
                    refine start_ (n := 19) (S := fun w' => w'.cell? ⟨gb662, 0, none⟩ = some (.bool a0_0) ∧ w'.cell? ⟨gb662, 1, none⟩ = some (.int .i64 a0_1) ∧ w'.cell? ⟨gb662, 2, none⟩ = some (.bool a0_2) ∧ w'.cell? ⟨gb662, 3, none⟩ = some (.int .i64 a0_3) ∧ w'.cell? ⟨gb662, 4, none⟩ = some (.slice A0_4 l0_4.length c0_4) ∧ w'.cell? ⟨gb663, 0, none⟩ = some (.bool a1_0) ∧ w'.cell? ⟨gb663, 1, none⟩ = some (.int .i64 a1_1) ∧ w'.cell? ⟨gb663, 2, none⟩ = some (.bool a1_2) ∧ w'.cell? ⟨gb663, 3, none⟩ = some (.int .i64 a1_3) ∧ w'.cell? ⟨gb663, 4, none⟩ = some (.slice A1_4 l1_4.length c1_4)) (ds := []) #[false, false, false, false, false, false, false, false, false, false, false, false, false, false, false, false, false, false, false] (by kernel_rfl) rfl rfl ⟨(blk_cell BK662.out 0).trans rfl, (blk_cell BK662.out 1).trans rfl, (blk_cell BK662.out 2).trans rfl, (blk_cell BK662.out 3).trans rfl, (blk_cell BK662.out 4).trans rfl, (blk_cell BK663.out 0).trans rfl, (blk_cell BK663.out 1).trans rfl, (blk_cell BK663.out 2).trans rfl, (blk_cell BK663.out 3).trans rfl, (blk_cell BK663.out 4).trans rfl⟩ (fun hHeld => ?_); refine with_tabW phaetonlaw05_WireApart.tab7 phaetonlaw05_WireApart.bits7 (fun HT_ HW_ => ?_)
                    generalize w57.drew = w60 at HO671 HO674 BK662 BK663 HB HR678 HR682 hHeld ⊢
                    refine pure_ (i := 0) (N := some 36) (v := ?_) (a' := ?_) #[true, false, false, false, false, false, false, false, false, false, false, false, false, false, false, false, false, false, false] rfl rfl (any_of HT_.out (by kernel_rfl)) (fun _ _ _ h => h) (Or.inl ⟨by rfl, ?_⟩) ?_ ?_
                    rotate_left
                    · intro w'
                      go_simp
                      with_reducible rfl
                    rotate_left
                    · simp only [Act.put, List.setIfInBounds_toArray, List.set_cons_zero, List.set_cons_succ, i64_w, i32_w]
                      rfl
                    refine pure_ (i := 1) (N := some 37) (v := ?_) (a' := ?_) #[true, true, false, false, false, false, false, false, false, false, false, false, false, false, false, false, false, false, false] rfl rfl (any_of HT_.out (by kernel_rfl)) (fun _ _ _ h => h) (Or.inl ⟨by rfl, ?_⟩) ?_ ?_
                    rotate_left
                    · intro w'
                      go_simp
                      with_reducible rfl
                    rotate_left
                    · simp only [Act.put, List.setIfInBounds_toArray, List.set_cons_zero, List.set_cons_succ, i64_w, i32_w]
                      rfl
                    refine pure_ (i := 2) (N := some 38) (v := ?_) (a' := ?_) #[true, true, true, false, false, false, false, false, false, false, false, false, false, false, false, false, false, false, false] rfl rfl (any_of HT_.out (by kernel_rfl)) (fun _ _ _ h => h) (Or.inl ⟨by rfl, ?_⟩) ?_ ?_
                    rotate_left
                    · intro w'
                      go_simp
                      with_reducible rfl
                    rotate_left
                    · simp only [Act.put, List.setIfInBounds_toArray, List.set_cons_zero, List.set_cons_succ, i64_w, i32_w]
                      rfl
                    refine pure_ (i := 3) (N := some 39) (v := ?_) (a' := ?_) #[true, true, true, true, false, false, false, false, false, false, false, false, false, false, false, false, false, false, false] rfl rfl (any_of HT_.out (by kernel_rfl)) (fun _ _ _ h => h) (Or.inl ⟨by rfl, ?_⟩) ?_ ?_
                    rotate_left
                    · intro w'
                      go_simp
                      with_reducible rfl
                    rotate_left
                    · simp only [Act.put, List.setIfInBounds_toArray, List.set_cons_zero, List.set_cons_succ, i64_w, i32_w]
                      rfl
                    refine pure_ (i := 4) (N := some 40) (v := ?_) (a' := ?_) #[true, true, true, true, true, false, false, false, false, false, false, false, false, false, false, false, false, false, false] rfl rfl (any_of HT_.out (by kernel_rfl)) (fun _ _ _ h => h) (Or.inl ⟨by rfl, ?_⟩) ?_ ?_
                    rotate_left
                    · intro w'
                      go_simp
                      with_reducible rfl
                    rotate_left
                    · simp only [Act.put, List.setIfInBounds_toArray, List.set_cons_zero, List.set_cons_succ, i64_w, i32_w]
                      rfl
                    refine pure_ (i := 5) (N := some 41) (v := ?_) (a' := ?_) #[true, true, true, true, true, true, false, false, false, false, false, false, false, false, false, false, false, false, false] rfl rfl (any_of HT_.out (by kernel_rfl)) (fun _ _ _ h => h) (Or.inl ⟨by rfl, ?_⟩) ?_ ?_
                    rotate_left
                    · intro w'
                      go_simp
                      with_reducible rfl
                    rotate_left
                    · simp only [Act.put, List.setIfInBounds_toArray, List.set_cons_zero, List.set_cons_succ, i64_w, i32_w]
                      rfl
                    refine pure_ (i := 6) (N := some 42) (v := ?_) (a' := ?_) #[true, true, true, true, true, true, true, false, false, false, false, false, false, false, false, false, false, false, false] rfl rfl (any_of HT_.out (by kernel_rfl)) (fun _ _ _ h => h) (Or.inl ⟨by rfl, ?_⟩) ?_ ?_
                    rotate_left
                    · intro w'
                      go_simp
                      with_reducible rfl
                    rotate_left
                    · simp only [Act.put, List.setIfInBounds_toArray, List.set_cons_zero, List.set_cons_succ, i64_w, i32_w]
                      rfl
                    refine pure_ (i := 7) (N := some 43) (v := ?_) (a' := ?_) #[true, true, true, true, true, true, true, true, false, false, false, false, false, false, false, false, false, false, false] rfl rfl (any_of HT_.out (by kernel_rfl)) (fun _ _ _ h => h) (Or.inl ⟨by rfl, ?_⟩) ?_ ?_
                    rotate_left
                    · intro w'
                      go_simp
                      with_reducible rfl
                    rotate_left
                    · simp only [Act.put, List.setIfInBounds_toArray, List.set_cons_zero, List.set_cons_succ, i64_w, i32_w]
                      rfl
                    refine pure_ (i := 8) (N := some 44) (v := ?_) (a' := ?_) #[true, true, true, true, true, true, true, true, true, false, false, false, false, false, false, false, false, false, false] rfl rfl (any_of HT_.out (by kernel_rfl)) (fun _ _ _ h => h) (Or.inl ⟨by rfl, ?_⟩) ?_ ?_
                    rotate_left
                    · intro w'
                      go_simp
                      with_reducible rfl
                    rotate_left
                    · simp only [Act.put, List.setIfInBounds_toArray, List.set_cons_zero, List.set_cons_succ, i64_w, i32_w]
                      rfl
                    refine pure_ (i := 9) (N := some 45) (v := ?_) (a' := ?_) #[true, true, true, true, true, true, true, true, true, true, false, false, false, false, false, false, false, false, false] rfl rfl (any_of HT_.out (by kernel_rfl)) (fun _ _ _ h => h) (Or.inl ⟨by rfl, ?_⟩) ?_ ?_
                    rotate_left
                    · intro w'
                      go_simp
                      with_reducible rfl
                    rotate_left
                    · simp only [Act.put, List.setIfInBounds_toArray, List.set_cons_zero, List.set_cons_succ, i64_w, i32_w]
                      rfl
                    refine pure_ (i := 10) (N := some 46) (v := ?_) (a' := ?_) #[true, true, true, true, true, true, true, true, true, true, true, false, false, false, false, false, false, false, false] rfl rfl (any_of HT_.out (by kernel_rfl)) (fun _ _ _ h => h) (Or.inl ⟨by rfl, ?_⟩) ?_ ?_
                    rotate_left
                    · intro w'
                      go_simp
                      with_reducible rfl
                    rotate_left
                    · simp only [Act.put, List.setIfInBounds_toArray, List.set_cons_zero, List.set_cons_succ, i64_w, i32_w]
                      rfl
                    refine pure_ (i := 11) (N := some 47) (v := ?_) (a' := ?_) #[true, true, true, true, true, true, true, true, true, true, true, true, false, false, false, false, false, false, false] rfl rfl (any_of HT_.out (by kernel_rfl)) (fun _ _ _ h => h) (Or.inl ⟨by rfl, ?_⟩) ?_ ?_
                    rotate_left
                    · intro w'
                      go_simp
                      with_reducible rfl
                    rotate_left
                    · simp only [Act.put, List.setIfInBounds_toArray, List.set_cons_zero, List.set_cons_succ, i64_w, i32_w]
                      rfl
                    refine take_ (i := 13) (N := some 49) (v := ?_) (a' := ?_) #[true, true, true, true, true, true, true, true, true, true, true, true, false, true, false, false, false, false, false] rfl rfl (take_ofW HT_.out HW_.out (by kernel_rfl)) (fun _ _ _ h => h) (Or.inl ⟨by rfl, ?_⟩) hHeld ?_ ?_
                    rotate_left
                    · rintro w' ⟨s0, s1, s2, s3, s4, s5, s6, s7, s8, s9⟩
                      go_simp
                      with_reducible rfl
                    rotate_left
                    · simp only [Act.put, List.setIfInBounds_toArray, List.set_cons_zero, List.set_cons_succ, i64_w, i32_w]
                      rfl
                    refine take_ (i := 14) (N := some 50) (v := ?_) (a' := ?_) #[true, true, true, true, true, true, true, true, true, true, true, true, false, true, true, false, false, false, false] rfl rfl (take_ofW HT_.out HW_.out (by kernel_rfl)) (fun _ _ _ h => h) (Or.inl ⟨by rfl, ?_⟩) hHeld ?_ ?_
                    rotate_left
                    · rintro w' ⟨s0, s1, s2, s3, s4, s5, s6, s7, s8, s9⟩
                      go_simp
                      with_reducible rfl
                    rotate_left
                    · simp only [Act.put, List.setIfInBounds_toArray, List.set_cons_zero, List.set_cons_succ, i64_w, i32_w]
                      rfl
                    refine one_ (i := 12) (N := some 48) #[true, true, true, true, true, true, true, true, true, true, true, true, true, true, true, false, false, false, false] rfl rfl (one_of HT_.out (by kernel_rfl)) (by decide) (fun K hK => ?_)
                    refine goes_ Try.func13 (by kernel_rfl) rfl #[.slice Ao58 y675.length co58, .slice Ao59 y679.length co59] (by rfl) rfl rfl (by (try simp only [List.map_toArray, List.map_cons, List.map_nil]); first | done | rfl | (simp only [List.length_drop, List.length_take]; rfl)) ?_
                    with_reducible refine (phaetonref01_Same.calls kj3 _ _ y675 _ _ y679 t683 _ ?side1 ?side2 ?side3 ?side4 A50.out).mono ?_
                    (case side1 => repeat (first | exact (by repeat (first | (with_reducible exact HR678.out) | (with_reducible refine Kd.C_alloc ?_ _) | (with_reducible refine Kd.C_drewN ?_ _) | (with_reducible refine Kd.C_drew ?_) | exact HR678.out)) | (with_reducible refine Kd.C_alloc ?_ _) | (with_reducible refine Kd.C_drewN ?_ _) | (with_reducible refine Kd.C_drew ?_)))
                    (case side2 => exact HC678.out)
                    (case side3 => repeat (first | exact (by repeat (first | (with_reducible exact HR682.out) | (with_reducible refine Kd.C_alloc ?_ _) | (with_reducible refine Kd.C_drewN ?_ _) | (with_reducible refine Kd.C_drew ?_) | exact HR682.out)) | (with_reducible refine Kd.C_alloc ?_ _) | (with_reducible refine Kd.C_drewN ?_ _) | (with_reducible refine Kd.C_drew ?_)))
                    (case side4 => exact HC682.out)
                    rintro e w' ⟨rfl, ⟨nd, rfl⟩⟩
                    refine ⟨_, rfl, ?_⟩
                    refine hK.out _ _ ⟨(blk_cell BK662.out 0).trans rfl, (blk_cell BK662.out 1).trans rfl, (blk_cell BK662.out 2).trans rfl, (blk_cell BK662.out 3).trans rfl, (blk_cell BK662.out 4).trans rfl, (blk_cell BK663.out 0).trans rfl, (blk_cell BK663.out 1).trans rfl, (blk_cell BK663.out 2).trans rfl, (blk_cell BK663.out 3).trans rfl, (blk_cell BK663.out 4).trans rfl⟩ (fun hHeld => ?_)
                    clear hK K
                    refine norm_ (a' := ?_) ?_ ?_
                    rotate_left
                    · show Act.put _ (some 48) _ = _
                      simp only [Act.put, List.setIfInBounds_toArray, List.set_cons_zero, List.set_cons_succ, i64_w, i32_w]
                      rfl
                    refine one_ (i := 15) (N := some 51) #[true, true, true, true, true, true, true, true, true, true, true, true, true, true, true, true, false, false, false] rfl rfl (one_of HT_.out (by kernel_rfl)) (by decide) (fun K hK => ?_)
                    refine goes_ Try.func23 (by kernel_rfl) rfl #[.agg #[.bool a0_0, .int .i64 a0_1, .bool a0_2, .int .i64 a0_3, .slice A0_4 l0_4.length c0_4], .agg #[.bool a1_0, .int .i64 a1_1, .bool a1_2, .int .i64 a1_3, .slice A1_4 l1_4.length c1_4]] (by rfl) rfl rfl (by (try simp only [List.map_toArray, List.map_cons, List.map_nil]); first | done | rfl | (simp only [List.length_drop, List.length_take]; rfl)) ?_
                    with_reducible refine (phaetonref04_Same.calls a0_0 a0_1 a0_2 a0_3 _ _ l0_4 a1_0 a1_1 a1_2 a1_3 _ _ l1_4 t684 _ ?side1 ?side2 ?side3 ?side4 A51.out).mono ?_
                    (case side1 => repeat (first | exact (Kd.C_below HR0_4.out (by repeat (first | (with_reducible first | exact HB.out | apply below_alloc | apply pw_below_drewN | apply below_drew1 | refine below_set ?_ GE662.out | refine below_set ?_ GE663.out) | exact HB.out))) | (with_reducible refine Kd.C_alloc ?_ _) | (with_reducible refine Kd.C_drewN ?_ _) | (with_reducible refine Kd.C_drew ?_)))
                    (case side2 => exact HC0_4.out)
                    (case side3 => repeat (first | exact (Kd.C_below HR1_4.out (by repeat (first | (with_reducible first | exact HB.out | apply below_alloc | apply pw_below_drewN | apply below_drew1 | refine below_set ?_ GE662.out | refine below_set ?_ GE663.out) | exact HB.out))) | (with_reducible refine Kd.C_alloc ?_ _) | (with_reducible refine Kd.C_drewN ?_ _) | (with_reducible refine Kd.C_drew ?_)))
                    (case side4 => exact HC1_4.out)
                    rintro e w63 ⟨rfl, hb⟩
                    refine ⟨_, rfl, ?_⟩
                    have n0_ := Aside0.mk (Kd.R_below (by (with_reducible repeat (first | apply Kd.R_alloc | apply Kd.R_drewN | apply Kd.R_drew)); exact HO671.out) hb)
                    have n1_ := Aside0.mk (Kd.R_below (by (with_reducible repeat (first | apply Kd.R_alloc | apply Kd.R_drewN | apply Kd.R_drew)); exact HO674.out) hb)
                    have n2_ := Aside0.mk (blk_below (g := gb662) (o := .cells #[.bool a0_0, .int .i64 a0_1, .bool a0_2, .int .i64 a0_3, .slice A0_4 l0_4.length c0_4] 24 (0, 0)) (by (with_reducible repeat (first | refine blk_drewN ?_ _ | refine blk_drew ?_ | refine blk_alloc ?_ _)); exact BK662.out) hb)
                    have n3_ := Aside0.mk (blk_below (g := gb663) (o := .cells #[.bool a1_0, .int .i64 a1_1, .bool a1_2, .int .i64 a1_3, .slice A1_4 l1_4.length c1_4] 24 (0, 0)) (by (with_reducible repeat (first | refine blk_drewN ?_ _ | refine blk_drew ?_ | refine blk_alloc ?_ _)); exact BK663.out) hb)
                    have n4_ := Aside0.mk (Kd.C_below (by repeat (first | (with_reducible exact HR678.out) | (with_reducible refine Kd.C_alloc ?_ _) | (with_reducible refine Kd.C_drewN ?_ _) | (with_reducible refine Kd.C_drew ?_) | exact HR678.out)) hb)
                    have n5_ := Aside0.mk (Kd.C_below (by repeat (first | (with_reducible exact HR682.out) | (with_reducible refine Kd.C_alloc ?_ _) | (with_reducible refine Kd.C_drewN ?_ _) | (with_reducible refine Kd.C_drew ?_) | exact HR682.out)) hb)
                    have n6_ := Aside0.mk (below_step (by repeat (first | (with_reducible first | exact HB.out | apply below_alloc | apply pw_below_drewN | apply below_drew1 | refine below_set ?_ GE662.out | refine below_set ?_ GE663.out) | exact HB.out)) hb)
                    clear HO671
                    clear HO674
                    clear BK662
                    clear BK663
                    clear HR678
                    clear HR682
                    clear HB
                    have HO671 := n0_
                    have HO674 := n1_
                    have BK662 := n2_
                    have BK663 := n3_
                    have HR678 := n4_
                    have HR682 := n5_
                    have HB := n6_
                    clear n0_ n1_ n2_ n3_ n4_ n5_ n6_
                    (try clear hb)
                    (try clear hb2)
                    (try clear hk)
                    (try clear hi)
                    refine hK.out _ _ ⟨(blk_cell BK662.out 0).trans rfl, (blk_cell BK662.out 1).trans rfl, (blk_cell BK662.out 2).trans rfl, (blk_cell BK662.out 3).trans rfl, (blk_cell BK662.out 4).trans rfl, (blk_cell BK663.out 0).trans rfl, (blk_cell BK663.out 1).trans rfl, (blk_cell BK663.out 2).trans rfl, (blk_cell BK663.out 3).trans rfl, (blk_cell BK663.out 4).trans rfl⟩ (fun hHeld => ?_)
                    clear hK K
                    refine norm_ (a' := ?_) ?_ ?_
                    rotate_left
                    · show Act.put _ (some 51) _ = _
                      simp only [Act.put, List.setIfInBounds_toArray, List.set_cons_zero, List.set_cons_succ, i64_w, i32_w]
                      rfl
                    refine pure_ (i := 16) (N := some 52) (v := ?_) (a' := ?_) #[true, true, true, true, true, true, true, true, true, true, true, true, true, true, true, true, true, false, false] rfl rfl (any_of HT_.out (by kernel_rfl)) (fun _ _ _ h => h) (Or.inl ⟨by rfl, ?_⟩) ?_ ?_
                    rotate_left
                    · intro w'
                      go_simp
                      with_reducible rfl
                    rotate_left
                    · simp only [Act.put, List.setIfInBounds_toArray, List.set_cons_zero, List.set_cons_succ, i64_w, i32_w]
                      rfl
                    refine pure_ (i := 17) (N := some 53) (v := ?_) (a' := ?_) #[true, true, true, true, true, true, true, true, true, true, true, true, true, true, true, true, true, true, false] rfl rfl (any_of HT_.out (by kernel_rfl)) (fun _ _ _ h => h) (Or.inl ⟨by rfl, ?_⟩) ?_ ?_
                    rotate_left
                    · intro w'
                      go_simp
                      with_reducible rfl
                    rotate_left
                    · simp only [Act.put, List.setIfInBounds_toArray, List.set_cons_zero, List.set_cons_succ, i64_w, i32_w]
                      rfl
                    refine pure_ (i := 18) (N := some 4) (v := ?_) (a' := ?_) #[true, true, true, true, true, true, true, true, true, true, true, true, true, true, true, true, true, true, true] rfl rfl (any_of HT_.out (by kernel_rfl)) (fun _ _ _ h => h) (Or.inl ⟨by rfl, ?_⟩) ?_ ?_
                    rotate_left
                    · intro w'
                      go_simp
                      with_reducible rfl
                    rotate_left
                    · simp only [Act.put, List.setIfInBounds_toArray, List.set_cons_zero, List.set_cons_succ, i64_w, i32_w]
                      rfl
                    refine done_ (done_of HT_.out (by kernel_rfl)) ?_
                    try go_wp2
                    go_ret
                    exact ⟨by first | rfl | (simp [errW_none, errW_some] <;> rfl) | (simp only [← hji43]; first | rfl | (simp [errW_none, errW_some] <;> rfl)) | (simp [*, errW_none, errW_some] <;> rfl), by repeat (first | (with_reducible first | exact HB.out | apply below_alloc | apply pw_below_drewN | apply below_drew1 | refine below_set ?_ GE662.out | refine below_set ?_ GE663.out) | exact HB.out)⟩
                  · rw [if_neg c52] at H
                    exact absurd H (by simp)
                · rw [if_neg c49] at H
                  exact absurd H (by simp)
              · rw [if_neg c47] at H
                exact absurd H (by simp)
            · rw [if_neg c46] at H
              exact absurd H (by simp)
          · rw [if_neg c45] at H
            have c45b0 : decide (20 ≤ (ji43)) = false := decide_eq_false c45
            clear c45
            exact absurd H (by simp)
        · replace c44 := Bool.eq_false_iff.mpr c44
          subst c44
          have H1 : (none) = some r := by rw [if_neg (show ¬ (false = true) by decide)] at H; exact H
          clear H
          have H := H1
          clear H1
          exact absurd H (by simp)

/-- THE ONE PURE STATEMENT of phaetonlaw05_WireApart. -/
def phaetonlaw05_WireApart.Pure : Prop := ∀ (a0_0 : Bool) (a0_1 : Int) (a0_2 : Bool) (a0_3 : Int) (l0_4 : List Int) (a1_0 : Bool) (a1_1 : Int) (a1_2 : Bool) (a1_3 : Int) (l1_4 : List Int), (Lit.int .i64 a0_1).wf = true → (Lit.int .i64 a0_3).wf = true → l0_4.length ≤ maxLen → (∀ x ∈ l0_4, (fun (x : Int) => (Lit.int .u8 x).wf = true) x) → (Lit.int .i64 a1_1).wf = true → (Lit.int .i64 a1_3).wf = true → l1_4.length ≤ maxLen → (∀ x ∈ l1_4, (fun (x : Int) => (Lit.int .u8 x).wf = true) x) → ∃ k, phaetonlaw05_WireApart.f k a0_0 a0_1 a0_2 a0_3 l0_4 a1_0 a1_1 a1_2 a1_3 l1_4 = some true
theorem phaetonlaw05_WireApart.walk (P : phaetonlaw05_WireApart.Pure) (a0_0 : Bool) (a0_1 : Int) (a0_2 : Bool) (a0_3 : Int) (A0_4 : Option Addr) (c0_4 : Nat) (l0_4 : List Int) (a1_0 : Bool) (a1_1 : Int) (a1_2 : Bool) (a1_3 : Int) (A1_4 : Option Addr) (c1_4 : Nat) (l1_4 : List Int) (w : World) (hw0_1 : (Lit.int .i64 a0_1).wf = true) (hw0_3 : (Lit.int .i64 a0_3).wf = true) (hw0_4 : ∀ x ∈ l0_4, (fun (x : Int) => (Lit.int .u8 x).wf = true) x) (hr0_4 : Kd.C (Kd.int .u8) w A0_4 l0_4.length l0_4) (hc0_4 : l0_4.length ≤ c0_4) (hw1_1 : (Lit.int .i64 a1_1).wf = true) (hw1_3 : (Lit.int .i64 a1_3).wf = true) (hw1_4 : ∀ x ∈ l1_4, (fun (x : Int) => (Lit.int .u8 x).wf = true) x) (hr1_4 : Kd.C (Kd.int .u8) w A1_4 l1_4.length l1_4) (hc1_4 : l1_4.length ≤ c1_4) :
    Calls Try.prog 8 #[.agg #[.bool a0_0, .int .i64 a0_1, .bool a0_2, .int .i64 a0_3, .slice A0_4 l0_4.length c0_4], .agg #[.bool a1_0, .int .i64 a1_1, .bool a1_2, .int .i64 a1_3, .slice A1_4 l1_4.length c1_4]] w fun e w' => e = .returned (.bool true) ∧ Below w.heap.size w w' := by
  obtain ⟨k, h⟩ := P a0_0 a0_1 a0_2 a0_3 l0_4 a1_0 a1_1 a1_2 a1_3 l1_4 hw0_1 hw0_3 (by have := hr0_4.2.1; unfold maxLen; omega) hw0_4 hw1_1 hw1_3 (by have := hr1_4.2.1; unfold maxLen; omega) hw1_4
  refine (phaetonlaw05_WireApart.calls k a0_0 a0_1 a0_2 a0_3 _ _ l0_4 a1_0 a1_1 a1_2 a1_3 _ _ l1_4 true w hr0_4 hc0_4 hr1_4 hc1_4 h).mono ?_
  rintro e w' ⟨rfl, hd⟩
  exact ⟨rfl, hd⟩

end Go.Proofs.Ythgeekcobmhbfaa.Px

-- Written by myprint.py, a program of this session's, over the kit's print.py; not a text of print.sh's own.
import Derived.Test.YtechlakahpkdpaaPx6a
import Derived.Test.YtechlakahpkdpaaHandFive
import Derived.Test.YtechlakahpkdpaaHandShare
import Derived.Test.YtechlakahpkdpaaHandBox
import Derived.Test.YtechlakahpkdpaaPx0
import Derived.Test.YtechlakahpkdpaaPx1
import Derived.Test.YtechlakahpkdpaaPx2
import Derived.Test.YtechlakahpkdpaaPx3
import Derived.Test.YtechlakahpkdpaaPx4
import Derived.Test.YtechlakahpkdpaaPx5
namespace Go.Proofs.Ytechlakahpkdpaa.Px
open Go.RowKit Go.Proofs.YtechlakahpkdpaaW.PrintWords Go.Proofs.YtechlakahpkdpaaW.PrintLast Go.Proofs.YtechlakahpkdpaaW.PrintMore
attribute [local go_sem] max2_int min2_int max_two min_two max_three min_three max_four min_four   -- for this text's walks alone
set_option linter.unusedVariables false
set_option linter.unusedSimpArgs false

def phaetontop_TopLine.T2 : Bool × List (List Nat × List Nat) := (true, [([], []), ([0], [0]), ([1], [1]), ([2], [2]), ([3], [3]), ([4], [4]), ([5, 4], [4, 5]), ([6, 4], [4, 6]), ([7, 4], [4, 7]), ([4, 8], [4, 8]), ([9, 4], [9]), ([10], [10]), ([11, 10, 10], [10, 11]), ([12, 10], [10, 12]), ([10, 13], [10, 13]), ([14, 12], [14]), ([15], [15]), ([16, 15, 15], [15, 16]), ([17, 15], [15, 17]), ([15, 18], [15, 18]), ([19, 17], [19]), ([20], [20]), ([21, 20, 20], [20, 21]), ([20], [20]), ([23, 22, 20], [20, 23]), ([22, 24, 24, 20], [20, 22, 24]), ([20, 25], [20, 25])])
def phaetontop_TopLine.B2 : List Nat := [0, 1, 3, 7, 15, 31, 63, 127, 255, 511, 1023, 2047, 4095, 8191, 16383, 32767, 65535, 131071, 262143, 524287, 1048575, 2097151, 4194303, 2097151, 16777215, 33554431, 67108863]
theorem phaetontop_TopLine.tab2 : rtab .any (opsOf Try.f4 2) = phaetontop_TopLine.T2 := by kernel_rfl
theorem phaetontop_TopLine.bits2 : waitsOk phaetontop_TopLine.T2.2 phaetontop_TopLine.B2 = true := by kernel_rfl
def phaetontop_TopLine.T12 : Bool × List (List Nat × List Nat) := (true, [([], []), ([], []), ([1], [1]), ([0, 2], [0, 2]), ([3], [3]), ([4], [4]), ([4], [4]), ([6, 4], [4, 6]), ([5, 7, 4], [4, 5, 7]), ([4, 8], [4, 8]), ([9, 4], [9]), ([10], [10]), ([10], [10]), ([11, 12, 10], [10, 11, 12]), ([13, 10], [10, 13]), ([10], [10]), ([10], [10]), ([15, 16, 10], [10, 15, 16]), ([17, 10], [10, 17]), ([14, 18, 10], [10, 14, 18]), ([10, 19], [10, 19])])
def phaetontop_TopLine.B12 : List Nat := [0, 0, 2, 7, 15, 31, 31, 95, 255, 511, 1023, 2047, 2047, 8191, 16383, 2047, 2047, 100351, 231423, 524287, 1048575]
theorem phaetontop_TopLine.tab12 : rtab .any (opsOf Try.f4 12) = phaetontop_TopLine.T12 := by kernel_rfl
theorem phaetontop_TopLine.bits12 : waitsOk phaetontop_TopLine.T12.2 phaetontop_TopLine.B12 = true := by kernel_rfl
def phaetontop_TopLine.T19 : Bool × List (List Nat × List Nat) := (true, [([], []), ([], []), ([0, 1], [0, 1]), ([2], [2]), ([], []), ([], []), ([4, 5], [4, 5]), ([6], [6]), ([3, 7], [3, 7]), ([8], [8]), ([], []), ([], []), ([10, 11], [10, 11]), ([12], [12]), ([9, 13], [9, 13])])
def phaetontop_TopLine.B19 : List Nat := [0, 0, 3, 7, 0, 0, 48, 112, 255, 511, 0, 0, 3072, 7168, 16383]
theorem phaetontop_TopLine.tab19 : rtab .any (opsOf Try.f4 19) = phaetontop_TopLine.T19 := by kernel_rfl
theorem phaetontop_TopLine.bits19 : waitsOk phaetontop_TopLine.T19.2 phaetontop_TopLine.B19 = true := by kernel_rfl
set_option maxHeartbeats 8000000 in
set_option maxRecDepth 100000 in
theorem phaetontop_TopLine.calls (k : Nat) (a0_0 : Bool) (a0_1 : Int) (a0_2 : Bool) (a0_3 : Int) (P0_4_ : Nat → Prop) (A0_4 : Option Addr) (c0_4 : Nat) (l0_4 : List Int) (a1_0 : Bool) (a1_1 : Int) (a1_2 : Bool) (a1_3 : Int) (P1_4_ : Nat → Prop) (A1_4 : Option Addr) (c1_4 : Nat) (l1_4 : List Int) (r : Bool) (w : World) (hs0_4 : Kd.V (Kd.int .u8) 5 w w.heap.size (fun k_ => P0_4_ k_) (.slice A0_4 l0_4.length c0_4) l0_4) (hs1_4 : Kd.V (Kd.int .u8) 5 w w.heap.size (fun k_ => P1_4_ k_) (.slice A1_4 l1_4.length c1_4) l1_4) (h : phaetontop_TopLine.f k a0_0 a0_1 a0_2 a0_3 l0_4 a1_0 a1_1 a1_2 a1_3 l1_4 = some r) :
  Calls Try.prog 4 #[.agg #[.bool a0_0, .int .i64 a0_1, .bool a0_2, .int .i64 a0_3, .slice A0_4 l0_4.length c0_4], .agg #[.bool a1_0, .int .i64 a1_1, .bool a1_2, .int .i64 a1_3, .slice A1_4 l1_4.length c1_4]] w fun e w' => e = .returned (.bool r) ∧ Below w.heap.size w w' := by
 have hu26 := Try.underlying26
 have HO0_4 := Aside0.mk (show Kd.V (Kd.int .u8) 5 w w.heap.size (fun k_ => ((P0_4_ k_ ∨ P1_4_ k_) ∨ w.heap.size ≤ k_)) (.slice A0_4 l0_4.length c0_4) l0_4 from Kd.V_mono hs0_4 (fun k_ hk => .inl (.inl hk)))
 have HO1_4 := Aside0.mk (show Kd.V (Kd.int .u8) 5 w w.heap.size (fun k_ => ((P0_4_ k_ ∨ P1_4_ k_) ∨ w.heap.size ≤ k_)) (.slice A1_4 l1_4.length c1_4) l1_4 from Kd.V_mono hs1_4 (fun k_ hk => .inl (.inr hk)))
 have HB := Aside0.mk (Below.refl w.heap.size w)
 have H : ((phaetontop_head06.f k).bind fun t211 => (if (l0_4.length : Int) > 8 then (phaetontop_TopLine.j0 k t211 true a0_0 a0_1 a0_2 a0_3 l0_4 a1_0 a1_1 a1_2 a1_3 l1_4) else (if (l1_4.length : Int) > 8 then (phaetontop_TopLine.j0 k t211 true a0_0 a0_1 a0_2 a0_3 l0_4 a1_0 a1_1 a1_2 a1_3 l1_4) else ((phaetonref04_Right.f k a0_0 a0_1 a0_2 a0_3 l0_4).bind fun t212 => (if t212 = true then ((phaetonref04_Right.f k a1_0 a1_1 a1_2 a1_3 l1_4).bind fun t213 => (if t213 = true then ((phaetonref04_Rank.f k a0_0 a0_1 a0_2 a0_3 l0_4).bind fun t214 => ((phaetonref04_Rank.f k a1_0 a1_1 a1_2 a1_3 l1_4).bind fun t217 => ((phaetonref01_Same.f k t214 t217).bind fun t220 => (phaetontop_TopLine.j0 k t211 t220 a0_0 a0_1 a0_2 a0_3 l0_4 a1_0 a1_1 a1_2 a1_3 l1_4)))) else (phaetontop_TopLine.j0 k t211 true a0_0 a0_1 a0_2 a0_3 l0_4 a1_0 a1_1 a1_2 a1_3 l1_4))) else (phaetontop_TopLine.j0 k t211 true a0_0 a0_1 a0_2 a0_3 l0_4 a1_0 a1_1 a1_2 a1_3 l1_4)))))) = some r := h
 clear h
 replace H := Option.bind_eq_some_iff.mp H
 obtain ⟨t211, A30, H⟩ := H
 replace H : (if (l0_4.length : Int) > 8 then (phaetontop_TopLine.j0 k t211 true a0_0 a0_1 a0_2 a0_3 l0_4 a1_0 a1_1 a1_2 a1_3 l1_4) else (if (l1_4.length : Int) > 8 then (phaetontop_TopLine.j0 k t211 true a0_0 a0_1 a0_2 a0_3 l0_4 a1_0 a1_1 a1_2 a1_3 l1_4) else ((phaetonref04_Right.f k a0_0 a0_1 a0_2 a0_3 l0_4).bind fun t212 => (if t212 = true then ((phaetonref04_Right.f k a1_0 a1_1 a1_2 a1_3 l1_4).bind fun t213 => (if t213 = true then ((phaetonref04_Rank.f k a0_0 a0_1 a0_2 a0_3 l0_4).bind fun t214 => ((phaetonref04_Rank.f k a1_0 a1_1 a1_2 a1_3 l1_4).bind fun t217 => ((phaetonref01_Same.f k t214 t217).bind fun t220 => (phaetontop_TopLine.j0 k t211 t220 a0_0 a0_1 a0_2 a0_3 l0_4 a1_0 a1_1 a1_2 a1_3 l1_4)))) else (phaetontop_TopLine.j0 k t211 true a0_0 a0_1 a0_2 a0_3 l0_4 a1_0 a1_1 a1_2 a1_3 l1_4))) else (phaetontop_TopLine.j0 k t211 true a0_0 a0_1 a0_2 a0_3 l0_4 a1_0 a1_1 a1_2 a1_3 l1_4))))) = some r := H
 have A3 := Aside0.mk A30
 clear A30
 have HC4 := Aside0.mk H
 clear H
 go_enter Try.func4, Try.ntmps4
 (try simp only [List.append])
 go_upto_region 2 with (first | ((with_reducible refine gate_dst (N := 2) rfl ?_); (try (refine gate_guard (by rfl) ?_; dsimp only)); refine box_event ?hg (N := 2) ?hd (cs := #[.bool a0_0, .int .i64 a0_1, .bool a0_2, .int .i64 a0_3, .slice A0_4 l0_4.length c0_4]) (t := 26) ?hr ?_; (case hd => rfl); (case hg => rfl); (case hr => first | (go_simp; done) | (go_simp; rfl)); intro gb209 hg w5 hbox hb; have n0_ := Aside0.mk (Kd.V_below (Kd.V_elderB (by (with_reducible repeat (first | apply Kd.V_alloc | apply Kd.V_drewN | apply Kd.V_drew)); exact HO0_4.out) gb209 (Nat.le_of_eq hg.symm)) hb); have n1_ := Aside0.mk (Kd.V_below (Kd.V_elderB (by (with_reducible repeat (first | apply Kd.V_alloc | apply Kd.V_drewN | apply Kd.V_drew)); exact HO1_4.out) gb209 (Nat.le_of_eq hg.symm)) hb); have n2_ := Aside0.mk (below_step (by repeat (first | (with_reducible first | exact HB.out | apply below_alloc | apply pw_below_drewN | apply below_drew1) | exact HB.out)) hb); have n3_ := Aside0.mk (hbox); have n4_ := Aside0.mk ((by rw [hg]; exact (below_size (by repeat (first | (with_reducible first | exact HB.out | apply below_alloc | apply pw_below_drewN | apply below_drew1) | exact HB.out))) : w.heap.size ≤ gb209)); have n5_ := Aside0.mk ((by rw [hg]; exact (below_size (by repeat (first | (with_reducible first | exact HB.out | apply below_alloc | apply pw_below_drewN | apply below_drew1) | exact HB.out))) : w.heap.size ≤ gb209)); clear HO0_4; clear HO1_4; clear HB; have HO0_4 := n0_; have HO1_4 := n1_; have HB := n2_; have BK209 := n3_; have GW209 := n4_; have GE209 := n5_; clear n0_ n1_ n2_ n3_ n4_ n5_; clear hb hbox hg) | ((with_reducible refine gate_dst (N := 3) rfl ?_); (try (refine gate_guard (by rfl) ?_; dsimp only)); refine box_event ?hg (N := 3) ?hd (cs := #[.bool a1_0, .int .i64 a1_1, .bool a1_2, .int .i64 a1_3, .slice A1_4 l1_4.length c1_4]) (t := 26) ?hr ?_; (case hd => rfl); (case hg => rfl); (case hr => first | (go_simp; done) | (go_simp; rfl)); intro gb210 hg w6 hbox hb; have n0_ := Aside0.mk (Kd.V_below (Kd.V_elderB (by (with_reducible repeat (first | apply Kd.V_alloc | apply Kd.V_drewN | apply Kd.V_drew)); exact HO0_4.out) gb210 (Nat.le_of_eq hg.symm)) hb); have n1_ := Aside0.mk (Kd.V_below (Kd.V_elderB (by (with_reducible repeat (first | apply Kd.V_alloc | apply Kd.V_drewN | apply Kd.V_drew)); exact HO1_4.out) gb210 (Nat.le_of_eq hg.symm)) hb); have n2_ := Aside0.mk (blk_below (g := gb209) (o := .cells #[.bool a0_0, .int .i64 a0_1, .bool a0_2, .int .i64 a0_3, .slice A0_4 l0_4.length c0_4] 26 (0, 0)) (by (with_reducible repeat (first | refine blk_drewN ?_ _ | refine blk_drew ?_ | refine blk_alloc ?_ _)); exact BK209.out) hb); have n3_ := Aside0.mk (below_step (by repeat (first | (with_reducible first | exact HB.out | apply below_alloc | apply pw_below_drewN | apply below_drew1 | refine below_set ?_ GE209.out) | exact HB.out)) hb); have n4_ := Aside0.mk (hbox); have n5_ := Aside0.mk ((by rw [hg]; exact (below_size (by repeat (first | (with_reducible first | exact HB.out | apply below_alloc | apply pw_below_drewN | apply below_drew1 | refine below_set ?_ GE209.out) | exact HB.out))) : w.heap.size ≤ gb210)); have n6_ := Aside0.mk ((by rw [hg]; exact (below_size (by repeat (first | (with_reducible first | exact HB.out | apply below_alloc | apply pw_below_drewN | apply below_drew1 | refine below_set ?_ GE209.out) | exact HB.out))) : w.heap.size ≤ gb210)); have n7_ := Aside0.mk ((by rw [hg]; exact Nat.ne_of_lt (blk_lt (g := gb209) (o := .cells #[.bool a0_0, .int .i64 a0_1, .bool a0_2, .int .i64 a0_3, .slice A0_4 l0_4.length c0_4] 26 (0, 0)) (by (with_reducible repeat (first | refine blk_drewN ?_ _ | refine blk_drew ?_ | refine blk_alloc ?_ _)); exact BK209.out)) : gb209 ≠ gb210)); have n8_ := Aside0.mk ((by rw [hg]; exact Nat.ne_of_gt (blk_lt (g := gb209) (o := .cells #[.bool a0_0, .int .i64 a0_1, .bool a0_2, .int .i64 a0_3, .slice A0_4 l0_4.length c0_4] 26 (0, 0)) (by (with_reducible repeat (first | refine blk_drewN ?_ _ | refine blk_drew ?_ | refine blk_alloc ?_ _)); exact BK209.out)) : gb210 ≠ gb209)); clear HO0_4; clear HO1_4; clear BK209; clear HB; have HO0_4 := n0_; have HO1_4 := n1_; have BK209 := n2_; have HB := n3_; have BK210 := n4_; have GW210 := n5_; have GE210 := n6_; have NB209_210 := n7_; have NB210_209 := n8_; clear n0_ n1_ n2_ n3_ n4_ n5_ n6_ n7_ n8_; clear hb hbox hg) | ((with_reducible refine gate_callee (f := 6) rfl ?_); refine goesL_ (some 16) rfl rfl Try.func6 (by kernel_rfl) rfl #[] rfl (by (try simp only [List.map_toArray, List.map_cons, List.map_nil]); first | done | rfl | (simp only [List.length_drop, List.length_take]; rfl)) ?_; (with_reducible refine (phaetontop_head06.calls k  t211 _ A3.out).mono ?_); rintro e w7 ⟨rfl, hb⟩; refine ⟨_, rfl, ?_⟩; have n0_ := Aside0.mk (Kd.V_below (by (with_reducible repeat (first | apply Kd.V_alloc | apply Kd.V_drewN | apply Kd.V_drew)); exact HO0_4.out) hb); have n1_ := Aside0.mk (Kd.V_below (by (with_reducible repeat (first | apply Kd.V_alloc | apply Kd.V_drewN | apply Kd.V_drew)); exact HO1_4.out) hb); have n2_ := Aside0.mk (blk_below (g := gb209) (o := .cells #[.bool a0_0, .int .i64 a0_1, .bool a0_2, .int .i64 a0_3, .slice A0_4 l0_4.length c0_4] 26 (0, 0)) (by (with_reducible repeat (first | refine blk_drewN ?_ _ | refine blk_drew ?_ | refine blk_alloc ?_ _)); exact BK209.out) hb); have n3_ := Aside0.mk (blk_below (g := gb210) (o := .cells #[.bool a1_0, .int .i64 a1_1, .bool a1_2, .int .i64 a1_3, .slice A1_4 l1_4.length c1_4] 26 (0, 0)) (by (with_reducible repeat (first | refine blk_drewN ?_ _ | refine blk_drew ?_ | refine blk_alloc ?_ _)); exact BK210.out) hb); have n4_ := Aside0.mk (below_step (by repeat (first | (with_reducible first | exact HB.out | apply below_alloc | apply pw_below_drewN | apply below_drew1 | refine below_set ?_ GE209.out | refine below_set ?_ GE210.out) | exact HB.out)) hb); clear HO0_4; clear HO1_4; clear BK209; clear BK210; clear HB; have HO0_4 := n0_; have HO1_4 := n1_; have BK209 := n2_; have BK210 := n3_; have HB := n4_; clear n0_ n1_ n2_ n3_ n4_; (try clear hb); (try clear hb2); (try clear hk); (try clear hi)))
 (try simp only [Act.put, List.setIfInBounds_toArray, List.set_cons_zero, List.set_cons_succ])
 go_cut [43] (fun v43 wc => ∃ (kq : Nat) (x43_3 : Bool), v43 = .bool x43_3 ∧ Aside0 (phaetontop_TopLine.j0 kq t211 x43_3 a0_0 a0_1 a0_2 a0_3 l0_4 a1_0 a1_1 a1_2 a1_3 l1_4 = some r) ∧ Aside0 (kq ≤ k) ∧ Aside0 (Kd.V (Kd.int .u8) 5 wc w.heap.size (fun k_ => ((P0_4_ k_ ∨ P1_4_ k_) ∨ w.heap.size ≤ k_) ∧ k_ ≠ gb209 ∧ k_ ≠ gb210) (.slice A0_4 l0_4.length c0_4) l0_4) ∧ Aside0 (Kd.V (Kd.int .u8) 5 wc w.heap.size (fun k_ => ((P0_4_ k_ ∨ P1_4_ k_) ∨ w.heap.size ≤ k_) ∧ k_ ≠ gb209 ∧ k_ ≠ gb210) (.slice A1_4 l1_4.length c1_4) l1_4) ∧ Aside0 (wc.heap[gb209]? = some (.cells #[.bool a0_0, .int .i64 a0_1, .bool a0_2, .int .i64 a0_3, (.slice A0_4 l0_4.length c0_4)] 26 (0, 0))) ∧ Aside0 (wc.heap[gb210]? = some (.cells #[.bool a1_0, .int .i64 a1_1, .bool a1_2, .int .i64 a1_3, (.slice A1_4 l1_4.length c1_4)] 26 (0, 0))) ∧ Aside0 (Below w.heap.size w wc))
 case first => as_aux_lemma =>
  have H := HC4.out
  clear HC4
  by_cases c8 : (l0_4.length : Int) > 8
  ·rw [if_pos c8] at H
   have c8b0 : decide (8 < (l0_4.length : Int)) = true := decide_eq_true c8
   have c8b1 : decide (8 < l0_4.length) = true := decide_eq_true (by omega)
   clear c8
   (first | rw [c8b0] | (simp only [i64_w, i32_w]; rw [c8b0]) | skip)
   have H' := Aside0.mk H
   clear H
   try go_wp2
   have n0_ := Aside0.mk (Kd.V_drew HO0_4.out)
   have n1_ := Aside0.mk (Kd.V_drew HO1_4.out)
   have n2_ := Aside0.mk (blk_drew BK209.out)
   have n3_ := Aside0.mk (blk_drew BK210.out)
   have n4_ := Aside0.mk (below_drew1 HB.out)
   clear HO0_4
   clear HO1_4
   clear BK209
   clear BK210
   clear HB
   have HO0_4 := n0_
   have HO1_4 := n1_
   have BK209 := n2_
   have BK210 := n3_
   have HB := n4_
   clear n0_ n1_ n2_ n3_ n4_
   refine start_ (n := 27) (S := fun w' => w'.cell? ⟨gb209, 0, none⟩ = some (.bool a0_0) ∧ w'.cell? ⟨gb209, 1, none⟩ = some (.int .i64 a0_1) ∧ w'.cell? ⟨gb209, 2, none⟩ = some (.bool a0_2) ∧ w'.cell? ⟨gb209, 3, none⟩ = some (.int .i64 a0_3) ∧ w'.cell? ⟨gb209, 4, none⟩ = some (.slice A0_4 l0_4.length c0_4)) (ds := []) #[false, false, false, false, false, false, false, false, false, false, false, false, false, false, false, false, false, false, false, false, false, false, false, false, false, false, false] (by kernel_rfl) rfl rfl ⟨(blk_cell BK209.out 0).trans rfl, (blk_cell BK209.out 1).trans rfl, (blk_cell BK209.out 2).trans rfl, (blk_cell BK209.out 3).trans rfl, (blk_cell BK209.out 4).trans rfl⟩ (fun hHeld => ?_); refine with_tabW phaetontop_TopLine.tab2 phaetontop_TopLine.bits2 (fun HT_ HW_ => ?_)
   generalize w7.drew = w9 at HO0_4 HO1_4 BK209 BK210 HB hHeld ⊢
   refine pure_ (i := 0) (N := some 17) (v := ?_) (a' := ?_) (HW.tf 1 26) rfl rfl (any_of HT_.out (by kernel_rfl)) (fun _ _ _ h => h) (Or.inl ⟨by rfl, ?_⟩) ?_ ?_
   rotate_left
   ·intro w'
    go_simp
    with_reducible rfl
   rotate_left
   ·simp only [Act.put, HW.LA, HW.LZ, HW.LS, i64_w, i32_w]
    rfl
   refine take_ (i := 1) (N := some 18) (v := ?_) (a' := ?_) (HW.tf 2 25) rfl rfl (take_ofW HT_.out HW_.out (by kernel_rfl)) (fun _ _ _ h => h) (Or.inl ⟨by rfl, ?_⟩) hHeld ?_ ?_
   rotate_left
   ·rintro w' ⟨s0, s1, s2, s3, s4⟩
    go_simp
    with_reducible rfl
   rotate_left
   ·simp only [Act.put, HW.LA, HW.LZ, HW.LS, i64_w, i32_w]
    rfl
   refine pure_ (i := 2) (N := some 19) (v := ?_) (a' := ?_) (HW.tf 3 24) rfl rfl (any_of HT_.out (by kernel_rfl)) (fun _ _ _ h => h) (Or.inl ⟨by rfl, ?_⟩) ?_ ?_
   rotate_left
   ·intro w'
    go_simp
    with_reducible rfl
   rotate_left
   ·simp only [Act.put, HW.LA, HW.LZ, HW.LS, i64_w, i32_w]
    rfl
   refine pure_ (i := 3) (N := some 20) (v := ?_) (a' := ?_) (HW.tf 4 23) rfl rfl (any_of HT_.out (by kernel_rfl)) (fun _ _ _ h => h) (Or.inl ⟨by rfl, ?_⟩) ?_ ?_
   rotate_left
   ·intro w'
    go_simp
    with_reducible rfl
   rotate_left
   ·simp only [Act.put, HW.LA, HW.LZ, HW.LS, i64_w, i32_w]
    rfl
   refine pure_ (i := 4) (N := some 21) (v := ?_) (a' := ?_) (HW.tf 5 22) rfl rfl (any_of HT_.out (by kernel_rfl)) (fun _ _ _ h => h) (Or.inl ⟨by rfl, ?_⟩) ?_ ?_
   rotate_left
   ·intro w'
    go_simp
    with_reducible rfl
   rotate_left
   ·simp only [Act.put, HW.LA, HW.LZ, HW.LS, i64_w, i32_w]
    rfl
   refine pure_ (i := 5) (N := some 22) (v := undef) (a' := ?_) (HW.tf 6 21) rfl rfl (any_of HT_.out (by kernel_rfl)) (fun _ _ _ h => h) (Or.inr ⟨by rfl, rfl⟩) ?_ ?_
   rotate_left
   ·simp only [Act.put, HW.LA, HW.LZ, HW.LS, i64_w, i32_w]
    rfl
   refine pure_ (i := 6) (N := some 23) (v := undef) (a' := ?_) (HW.tf 7 20) rfl rfl (any_of HT_.out (by kernel_rfl)) (fun _ _ _ h => h) (Or.inr ⟨by rfl, rfl⟩) ?_ ?_
   rotate_left
   ·simp only [Act.put, HW.LA, HW.LZ, HW.LS, i64_w, i32_w]
    rfl
   refine pure_ (i := 7) (N := some 24) (v := undef) (a' := ?_) (HW.tf 8 19) rfl rfl (any_of HT_.out (by kernel_rfl)) (fun _ _ _ h => h) (Or.inr ⟨by rfl, rfl⟩) ?_ ?_
   rotate_left
   ·simp only [Act.put, HW.LA, HW.LZ, HW.LS, i64_w, i32_w]
    rfl
   refine pure_ (i := 8) (N := some 25) (v := undef) (a' := ?_) (HW.tf 9 18) rfl rfl (any_of HT_.out (by kernel_rfl)) (fun _ _ _ h => h) (Or.inr ⟨by rfl, rfl⟩) ?_ ?_
   rotate_left
   ·simp only [Act.put, HW.LA, HW.LZ, HW.LS, i64_w, i32_w]
    rfl
   refine pure_ (i := 9) (N := some 26) (v := ?_) (a' := ?_) (HW.tf 10 17) rfl rfl (any_of HT_.out (by kernel_rfl)) (fun _ _ _ h => h) (Or.inl ⟨by rfl, ?_⟩) ?_ ?_
   rotate_left
   ·intro w'
    go_simp
    with_reducible rfl
   rotate_left
   ·simp only [Act.put, HW.LA, HW.LZ, HW.LS, i64_w, i32_w]
    rfl
   refine pure_ (i := 10) (N := some 27) (v := ?_) (a' := ?_) (HW.tf 11 16) rfl rfl (any_of HT_.out (by kernel_rfl)) (fun _ _ _ h => h) (Or.inl ⟨by rfl, ?_⟩) ?_ ?_
   rotate_left
   ·intro w'
    go_simp
    with_reducible rfl
   rotate_left
   ·simp only [Act.put, HW.LA, HW.LZ, HW.LS, i64_w, i32_w]
    rfl
   refine pure_ (i := 11) (N := some 28) (v := undef) (a' := ?_) (HW.tf 12 15) rfl rfl (any_of HT_.out (by kernel_rfl)) (fun _ _ _ h => h) (Or.inr ⟨by rfl, rfl⟩) ?_ ?_
   rotate_left
   ·simp only [Act.put, HW.LA, HW.LZ, HW.LS, i64_w, i32_w]
    rfl
   refine pure_ (i := 12) (N := some 29) (v := undef) (a' := ?_) (HW.tf 13 14) rfl rfl (any_of HT_.out (by kernel_rfl)) (fun _ _ _ h => h) (Or.inr ⟨by rfl, rfl⟩) ?_ ?_
   rotate_left
   ·simp only [Act.put, HW.LA, HW.LZ, HW.LS, i64_w, i32_w]
    rfl
   refine pure_ (i := 13) (N := some 30) (v := undef) (a' := ?_) (HW.tf 14 13) rfl rfl (any_of HT_.out (by kernel_rfl)) (fun _ _ _ h => h) (Or.inr ⟨by rfl, rfl⟩) ?_ ?_
   rotate_left
   ·simp only [Act.put, HW.LA, HW.LZ, HW.LS, i64_w, i32_w]
    rfl
   refine pure_ (i := 14) (N := some 31) (v := ?_) (a' := ?_) (HW.tf 15 12) rfl rfl (any_of HT_.out (by kernel_rfl)) (fun _ _ _ h => h) (Or.inl ⟨by rfl, ?_⟩) ?_ ?_
   rotate_left
   ·intro w'
    go_simp
    with_reducible rfl
   rotate_left
   ·simp only [Act.put, HW.LA, HW.LZ, HW.LS, i64_w, i32_w]
    rfl
   refine pure_ (i := 15) (N := some 32) (v := ?_) (a' := ?_) (HW.tf 16 11) rfl rfl (any_of HT_.out (by kernel_rfl)) (fun _ _ _ h => h) (Or.inl ⟨by rfl, ?_⟩) ?_ ?_
   rotate_left
   ·intro w'
    go_simp
    with_reducible rfl
   rotate_left
   ·simp only [Act.put, HW.LA, HW.LZ, HW.LS, i64_w, i32_w]
    rfl
   refine pure_ (i := 16) (N := some 33) (v := undef) (a' := ?_) (HW.tf 17 10) rfl rfl (any_of HT_.out (by kernel_rfl)) (fun _ _ _ h => h) (Or.inr ⟨by rfl, rfl⟩) ?_ ?_
   rotate_left
   ·simp only [Act.put, HW.LA, HW.LZ, HW.LS, i64_w, i32_w]
    rfl
   refine pure_ (i := 17) (N := some 34) (v := undef) (a' := ?_) (HW.tf 18 9) rfl rfl (any_of HT_.out (by kernel_rfl)) (fun _ _ _ h => h) (Or.inr ⟨by rfl, rfl⟩) ?_ ?_
   rotate_left
   ·simp only [Act.put, HW.LA, HW.LZ, HW.LS, i64_w, i32_w]
    rfl
   refine pure_ (i := 18) (N := some 35) (v := undef) (a' := ?_) (HW.tf 19 8) rfl rfl (any_of HT_.out (by kernel_rfl)) (fun _ _ _ h => h) (Or.inr ⟨by rfl, rfl⟩) ?_ ?_
   rotate_left
   ·simp only [Act.put, HW.LA, HW.LZ, HW.LS, i64_w, i32_w]
    rfl
   refine pure_ (i := 19) (N := some 36) (v := ?_) (a' := ?_) (HW.tf 20 7) rfl rfl (any_of HT_.out (by kernel_rfl)) (fun _ _ _ h => h) (Or.inl ⟨by rfl, ?_⟩) ?_ ?_
   rotate_left
   ·intro w'
    go_simp
    with_reducible rfl
   rotate_left
   ·simp only [Act.put, HW.LA, HW.LZ, HW.LS, i64_w, i32_w]
    rfl
   refine pure_ (i := 20) (N := some 37) (v := ?_) (a' := ?_) (HW.tf 21 6) rfl rfl (any_of HT_.out (by kernel_rfl)) (fun _ _ _ h => h) (Or.inl ⟨by rfl, ?_⟩) ?_ ?_
   rotate_left
   ·intro w'
    go_simp
    with_reducible rfl
   rotate_left
   ·simp only [Act.put, HW.LA, HW.LZ, HW.LS, i64_w, i32_w]
    rfl
   refine pure_ (i := 21) (N := some 38) (v := undef) (a' := ?_) (HW.tf 22 5) rfl rfl (any_of HT_.out (by kernel_rfl)) (fun _ _ _ h => h) (Or.inr ⟨by rfl, rfl⟩) ?_ ?_
   rotate_left
   ·simp only [Act.put, HW.LA, HW.LZ, HW.LS, i64_w, i32_w]
    rfl
   refine pure_ (i := 22) (N := some 39) (v := undef) (a' := ?_) (HW.tf 23 4) rfl rfl (any_of HT_.out (by kernel_rfl)) (fun _ _ _ h => h) (Or.inr ⟨by rfl, rfl⟩) ?_ ?_
   rotate_left
   ·simp only [Act.put, HW.LA, HW.LZ, HW.LS, i64_w, i32_w]
    rfl
   refine pure_ (i := 23) (N := some 40) (v := undef) (a' := ?_) (HW.tf 24 3) rfl rfl (any_of HT_.out (by kernel_rfl)) (fun _ _ _ h => h) (Or.inr ⟨by rfl, rfl⟩) ?_ ?_
   rotate_left
   ·simp only [Act.put, HW.LA, HW.LZ, HW.LS, i64_w, i32_w]
    rfl
   refine pure_ (i := 24) (N := some 41) (v := undef) (a' := ?_) (HW.tf 25 2) rfl rfl (any_of HT_.out (by kernel_rfl)) (fun _ _ _ h => h) (Or.inr ⟨by rfl, rfl⟩) ?_ ?_
   rotate_left
   ·simp only [Act.put, HW.LA, HW.LZ, HW.LS, i64_w, i32_w]
    rfl
   refine pure_ (i := 25) (N := some 42) (v := undef) (a' := ?_) (HW.tf 26 1) rfl rfl (any_of HT_.out (by kernel_rfl)) (fun _ _ _ h => h) (Or.inr ⟨by rfl, rfl⟩) ?_ ?_
   rotate_left
   ·simp only [Act.put, HW.LA, HW.LZ, HW.LS, i64_w, i32_w]
    rfl
   refine pure_ (i := 26) (N := some 43) (v := ?_) (a' := ?_) (HW.tf 27 0) rfl rfl (any_of HT_.out (by kernel_rfl)) (fun _ _ _ h => h) (Or.inl ⟨by rfl, ?_⟩) ?_ ?_
   rotate_left
   ·intro w'
    go_simp
    with_reducible rfl
   rotate_left
   ·simp only [Act.put, HW.LA, HW.LZ, HW.LS, i64_w, i32_w]
    rfl
   refine done_ (done_of HT_.out (by kernel_rfl)) ?_
   try go_wp2
   go_meet
   case rel => exact ⟨_, (true), (by first | rfl | (simp; done) | (simp [*]; done)), H', ⟨by first | omega | exact Nat.le_refl _⟩, ⟨by (with_reducible repeat (first | apply Kd.V_alloc | apply Kd.V_drewN | apply Kd.V_drew)); exact Kd.V_mono HO0_4.out (fun _ hk => ⟨hk.1.1, ⟨hk.1.2, hk.2⟩⟩)⟩, ⟨by (with_reducible repeat (first | apply Kd.V_alloc | apply Kd.V_drewN | apply Kd.V_drew)); exact Kd.V_mono HO1_4.out (fun _ hk => ⟨hk.1.1, ⟨hk.1.2, hk.2⟩⟩)⟩, ⟨by (with_reducible repeat (first | refine blk_drewN ?_ _ | refine blk_drew ?_ | refine blk_alloc ?_ _)); exact BK209.out⟩, ⟨by (with_reducible repeat (first | refine blk_drewN ?_ _ | refine blk_drew ?_ | refine blk_alloc ?_ _)); exact BK210.out⟩, ⟨by repeat (first | (with_reducible first | exact HB.out | apply below_alloc | apply pw_below_drewN | apply below_drew1 | refine below_set ?_ GE209.out | refine below_set ?_ GE210.out) | exact HB.out)⟩⟩
  ·rw [if_neg c8] at H
   have c8b0 : decide (8 < (l0_4.length : Int)) = false := decide_eq_false c8
   have c8b1 : decide (8 < l0_4.length) = false := decide_eq_false (by omega)
   clear c8
   (first | rw [c8b0] | (simp only [i64_w, i32_w]; rw [c8b0]) | skip)
   by_cases c10 : (l1_4.length : Int) > 8
   ·rw [if_pos c10] at H
    have c10b0 : decide (8 < (l1_4.length : Int)) = true := decide_eq_true c10
    have c10b1 : decide (8 < l1_4.length) = true := decide_eq_true (by omega)
    clear c10
    have H' := Aside0.mk H
    clear H
    try go_wp2
    have n0_ := Aside0.mk (Kd.V_drew HO0_4.out)
    have n1_ := Aside0.mk (Kd.V_drew HO1_4.out)
    have n2_ := Aside0.mk (blk_drew BK209.out)
    have n3_ := Aside0.mk (blk_drew BK210.out)
    have n4_ := Aside0.mk (below_drew1 HB.out)
    clear HO0_4
    clear HO1_4
    clear BK209
    clear BK210
    clear HB
    have HO0_4 := n0_
    have HO1_4 := n1_
    have BK209 := n2_
    have BK210 := n3_
    have HB := n4_
    clear n0_ n1_ n2_ n3_ n4_
    refine start_ (n := 27) (S := fun w' => w'.cell? ⟨gb209, 0, none⟩ = some (.bool a0_0) ∧ w'.cell? ⟨gb209, 1, none⟩ = some (.int .i64 a0_1) ∧ w'.cell? ⟨gb209, 2, none⟩ = some (.bool a0_2) ∧ w'.cell? ⟨gb209, 3, none⟩ = some (.int .i64 a0_3) ∧ w'.cell? ⟨gb209, 4, none⟩ = some (.slice A0_4 l0_4.length c0_4) ∧ w'.cell? ⟨gb210, 0, none⟩ = some (.bool a1_0) ∧ w'.cell? ⟨gb210, 1, none⟩ = some (.int .i64 a1_1) ∧ w'.cell? ⟨gb210, 2, none⟩ = some (.bool a1_2) ∧ w'.cell? ⟨gb210, 3, none⟩ = some (.int .i64 a1_3) ∧ w'.cell? ⟨gb210, 4, none⟩ = some (.slice A1_4 l1_4.length c1_4)) (ds := []) #[false, false, false, false, false, false, false, false, false, false, false, false, false, false, false, false, false, false, false, false, false, false, false, false, false, false, false] (by kernel_rfl) rfl rfl ⟨(blk_cell BK209.out 0).trans rfl, (blk_cell BK209.out 1).trans rfl, (blk_cell BK209.out 2).trans rfl, (blk_cell BK209.out 3).trans rfl, (blk_cell BK209.out 4).trans rfl, (blk_cell BK210.out 0).trans rfl, (blk_cell BK210.out 1).trans rfl, (blk_cell BK210.out 2).trans rfl, (blk_cell BK210.out 3).trans rfl, (blk_cell BK210.out 4).trans rfl⟩ (fun hHeld => ?_); refine with_tabW phaetontop_TopLine.tab2 phaetontop_TopLine.bits2 (fun HT_ HW_ => ?_)
    generalize w7.drew = w11 at HO0_4 HO1_4 BK209 BK210 HB hHeld ⊢
    refine pure_ (i := 0) (N := some 17) (v := ?_) (a' := ?_) (HW.tf 1 26) rfl rfl (any_of HT_.out (by kernel_rfl)) (fun _ _ _ h => h) (Or.inl ⟨by rfl, ?_⟩) ?_ ?_
    rotate_left
    ·intro w'
     go_simp
     with_reducible rfl
    rotate_left
    ·simp only [Act.put, HW.LA, HW.LZ, HW.LS, i64_w, i32_w]
     rfl
    refine take_ (i := 1) (N := some 18) (v := ?_) (a' := ?_) (HW.tf 2 25) rfl rfl (take_ofW HT_.out HW_.out (by kernel_rfl)) (fun _ _ _ h => h) (Or.inl ⟨by rfl, ?_⟩) hHeld ?_ ?_
    rotate_left
    ·rintro w' ⟨s0, s1, s2, s3, s4, s5, s6, s7, s8, s9⟩
     go_simp
     with_reducible rfl
    rotate_left
    ·simp only [Act.put, HW.LA, HW.LZ, HW.LS, i64_w, i32_w]
     rfl
    refine pure_ (i := 2) (N := some 19) (v := ?_) (a' := ?_) (HW.tf 3 24) rfl rfl (any_of HT_.out (by kernel_rfl)) (fun _ _ _ h => h) (Or.inl ⟨by rfl, ?_⟩) ?_ ?_
    rotate_left
    ·intro w'
     go_simp
     with_reducible rfl
    rotate_left
    ·simp only [Act.put, HW.LA, HW.LZ, HW.LS, i64_w, i32_w]
     rfl
    refine pure_ (i := 3) (N := some 20) (v := ?_) (a' := ?_) (HW.tf 4 23) rfl rfl (any_of HT_.out (by kernel_rfl)) (fun _ _ _ h => h) (Or.inl ⟨by rfl, ?_⟩) ?_ ?_
    rotate_left
    ·intro w'
     go_simp
     with_reducible rfl
    rotate_left
    ·simp only [Act.put, HW.LA, HW.LZ, HW.LS, i64_w, i32_w]
     rfl
    refine pure_ (i := 4) (N := some 21) (v := ?_) (a' := ?_) (HW.tf 5 22) rfl rfl (any_of HT_.out (by kernel_rfl)) (fun _ _ _ h => h) (Or.inl ⟨by rfl, ?_⟩) ?_ ?_
    rotate_left
    ·intro w'
     go_simp
     with_reducible rfl
    rotate_left
    ·simp only [Act.put, HW.LA, HW.LZ, HW.LS, i64_w, i32_w]
     rfl
    refine pure_ (i := 5) (N := some 22) (v := ?_) (a' := ?_) (HW.tf 6 21) rfl rfl (any_of HT_.out (by kernel_rfl)) (fun _ _ _ h => h) (Or.inl ⟨by rfl, ?_⟩) ?_ ?_
    rotate_left
    ·intro w'
     go_simp
     with_reducible rfl
    rotate_left
    ·simp only [Act.put, HW.LA, HW.LZ, HW.LS, i64_w, i32_w]
     rfl
    refine take_ (i := 6) (N := some 23) (v := ?_) (a' := ?_) (HW.tf 7 20) rfl rfl (take_ofW HT_.out HW_.out (by kernel_rfl)) (fun _ _ _ h => h) (Or.inl ⟨by rfl, ?_⟩) hHeld ?_ ?_
    rotate_left
    ·rintro w' ⟨s0, s1, s2, s3, s4, s5, s6, s7, s8, s9⟩
     go_simp
     with_reducible rfl
    rotate_left
    ·simp only [Act.put, HW.LA, HW.LZ, HW.LS, i64_w, i32_w]
     rfl
    refine pure_ (i := 7) (N := some 24) (v := ?_) (a' := ?_) (HW.tf 8 19) rfl rfl (any_of HT_.out (by kernel_rfl)) (fun _ _ _ h => h) (Or.inl ⟨by rfl, ?_⟩) ?_ ?_
    rotate_left
    ·intro w'
     go_simp
     with_reducible rfl
    rotate_left
    ·simp only [Act.put, HW.LA, HW.LZ, HW.LS, i64_w, i32_w]
     rfl
    refine pure_ (i := 8) (N := some 25) (v := ?_) (a' := ?_) (HW.tf 9 18) rfl rfl (any_of HT_.out (by kernel_rfl)) (fun _ _ _ h => h) (Or.inl ⟨by rfl, ?_⟩) ?_ ?_
    rotate_left
    ·intro w'
     go_simp
     with_reducible rfl
    rotate_left
    ·simp only [Act.put, HW.LA, HW.LZ, HW.LS, i64_w, i32_w]
     rfl
    refine pure_ (i := 9) (N := some 26) (v := ?_) (a' := ?_) (HW.tf 10 17) rfl rfl (any_of HT_.out (by kernel_rfl)) (fun _ _ _ h => h) (Or.inl ⟨by rfl, ?_⟩) ?_ ?_
    rotate_left
    ·intro w'
     go_simp
     with_reducible rfl
    rotate_left
    ·simp only [Act.put, HW.LA, HW.LZ, HW.LS, i64_w, i32_w]
     rfl
    refine pure_ (i := 10) (N := some 27) (v := ?_) (a' := ?_) (HW.tf 11 16) rfl rfl (any_of HT_.out (by kernel_rfl)) (fun _ _ _ h => h) (Or.inl ⟨by rfl, ?_⟩) ?_ ?_
    rotate_left
    ·intro w'
     go_simp
     with_reducible rfl
    rotate_left
    ·simp only [Act.put, HW.LA, HW.LZ, HW.LS, i64_w, i32_w]
     rfl
    refine pure_ (i := 11) (N := some 28) (v := undef) (a' := ?_) (HW.tf 12 15) rfl rfl (any_of HT_.out (by kernel_rfl)) (fun _ _ _ h => h) (Or.inr ⟨by rfl, rfl⟩) ?_ ?_
    rotate_left
    ·simp only [Act.put, HW.LA, HW.LZ, HW.LS, i64_w, i32_w]
     rfl
    refine pure_ (i := 12) (N := some 29) (v := undef) (a' := ?_) (HW.tf 13 14) rfl rfl (any_of HT_.out (by kernel_rfl)) (fun _ _ _ h => h) (Or.inr ⟨by rfl, rfl⟩) ?_ ?_
    rotate_left
    ·simp only [Act.put, HW.LA, HW.LZ, HW.LS, i64_w, i32_w]
     rfl
    refine pure_ (i := 13) (N := some 30) (v := undef) (a' := ?_) (HW.tf 14 13) rfl rfl (any_of HT_.out (by kernel_rfl)) (fun _ _ _ h => h) (Or.inr ⟨by rfl, rfl⟩) ?_ ?_
    rotate_left
    ·simp only [Act.put, HW.LA, HW.LZ, HW.LS, i64_w, i32_w]
     rfl
    refine pure_ (i := 14) (N := some 31) (v := ?_) (a' := ?_) (HW.tf 15 12) rfl rfl (any_of HT_.out (by kernel_rfl)) (fun _ _ _ h => h) (Or.inl ⟨by rfl, ?_⟩) ?_ ?_
    rotate_left
    ·intro w'
     go_simp
     with_reducible rfl
    rotate_left
    ·simp only [Act.put, HW.LA, HW.LZ, HW.LS, i64_w, i32_w]
     rfl
    refine pure_ (i := 15) (N := some 32) (v := ?_) (a' := ?_) (HW.tf 16 11) rfl rfl (any_of HT_.out (by kernel_rfl)) (fun _ _ _ h => h) (Or.inl ⟨by rfl, ?_⟩) ?_ ?_
    rotate_left
    ·intro w'
     go_simp
     with_reducible rfl
    rotate_left
    ·simp only [Act.put, HW.LA, HW.LZ, HW.LS, i64_w, i32_w]
     rfl
    refine pure_ (i := 16) (N := some 33) (v := undef) (a' := ?_) (HW.tf 17 10) rfl rfl (any_of HT_.out (by kernel_rfl)) (fun _ _ _ h => h) (Or.inr ⟨by rfl, rfl⟩) ?_ ?_
    rotate_left
    ·simp only [Act.put, HW.LA, HW.LZ, HW.LS, i64_w, i32_w]
     rfl
    refine pure_ (i := 17) (N := some 34) (v := undef) (a' := ?_) (HW.tf 18 9) rfl rfl (any_of HT_.out (by kernel_rfl)) (fun _ _ _ h => h) (Or.inr ⟨by rfl, rfl⟩) ?_ ?_
    rotate_left
    ·simp only [Act.put, HW.LA, HW.LZ, HW.LS, i64_w, i32_w]
     rfl
    refine pure_ (i := 18) (N := some 35) (v := undef) (a' := ?_) (HW.tf 19 8) rfl rfl (any_of HT_.out (by kernel_rfl)) (fun _ _ _ h => h) (Or.inr ⟨by rfl, rfl⟩) ?_ ?_
    rotate_left
    ·simp only [Act.put, HW.LA, HW.LZ, HW.LS, i64_w, i32_w]
     rfl
    refine pure_ (i := 19) (N := some 36) (v := ?_) (a' := ?_) (HW.tf 20 7) rfl rfl (any_of HT_.out (by kernel_rfl)) (fun _ _ _ h => h) (Or.inl ⟨by rfl, ?_⟩) ?_ ?_
    rotate_left
    ·intro w'
     go_simp
     with_reducible rfl
    rotate_left
    ·simp only [Act.put, HW.LA, HW.LZ, HW.LS, i64_w, i32_w]
     rfl
    refine pure_ (i := 20) (N := some 37) (v := ?_) (a' := ?_) (HW.tf 21 6) rfl rfl (any_of HT_.out (by kernel_rfl)) (fun _ _ _ h => h) (Or.inl ⟨by rfl, ?_⟩) ?_ ?_
    rotate_left
    ·intro w'
     go_simp
     with_reducible rfl
    rotate_left
    ·simp only [Act.put, HW.LA, HW.LZ, HW.LS, i64_w, i32_w]
     rfl
    refine pure_ (i := 21) (N := some 38) (v := undef) (a' := ?_) (HW.tf 22 5) rfl rfl (any_of HT_.out (by kernel_rfl)) (fun _ _ _ h => h) (Or.inr ⟨by rfl, rfl⟩) ?_ ?_
    rotate_left
    ·simp only [Act.put, HW.LA, HW.LZ, HW.LS, i64_w, i32_w]
     rfl
    refine pure_ (i := 22) (N := some 39) (v := undef) (a' := ?_) (HW.tf 23 4) rfl rfl (any_of HT_.out (by kernel_rfl)) (fun _ _ _ h => h) (Or.inr ⟨by rfl, rfl⟩) ?_ ?_
    rotate_left
    ·simp only [Act.put, HW.LA, HW.LZ, HW.LS, i64_w, i32_w]
     rfl
    refine pure_ (i := 23) (N := some 40) (v := undef) (a' := ?_) (HW.tf 24 3) rfl rfl (any_of HT_.out (by kernel_rfl)) (fun _ _ _ h => h) (Or.inr ⟨by rfl, rfl⟩) ?_ ?_
    rotate_left
    ·simp only [Act.put, HW.LA, HW.LZ, HW.LS, i64_w, i32_w]
     rfl
    refine pure_ (i := 24) (N := some 41) (v := undef) (a' := ?_) (HW.tf 25 2) rfl rfl (any_of HT_.out (by kernel_rfl)) (fun _ _ _ h => h) (Or.inr ⟨by rfl, rfl⟩) ?_ ?_
    rotate_left
    ·simp only [Act.put, HW.LA, HW.LZ, HW.LS, i64_w, i32_w]
     rfl
    refine pure_ (i := 25) (N := some 42) (v := undef) (a' := ?_) (HW.tf 26 1) rfl rfl (any_of HT_.out (by kernel_rfl)) (fun _ _ _ h => h) (Or.inr ⟨by rfl, rfl⟩) ?_ ?_
    rotate_left
    ·simp only [Act.put, HW.LA, HW.LZ, HW.LS, i64_w, i32_w]
     rfl
    refine pure_ (i := 26) (N := some 43) (v := ?_) (a' := ?_) (HW.tf 27 0) rfl rfl (any_of HT_.out (by kernel_rfl)) (fun _ _ _ h => h) (Or.inl ⟨by rfl, ?_⟩) ?_ ?_
    rotate_left
    ·intro w'
     go_simp
     with_reducible rfl
    rotate_left
    ·simp only [Act.put, HW.LA, HW.LZ, HW.LS, i64_w, i32_w]
     rfl
    refine done_ (done_of HT_.out (by kernel_rfl)) ?_
    try go_wp2
    go_meet
    case rel => exact ⟨_, (true), (by first | rfl | (simp; done) | (simp [*]; done)), H', ⟨by first | omega | exact Nat.le_refl _⟩, ⟨by (with_reducible repeat (first | apply Kd.V_alloc | apply Kd.V_drewN | apply Kd.V_drew)); exact Kd.V_mono HO0_4.out (fun _ hk => ⟨hk.1.1, ⟨hk.1.2, hk.2⟩⟩)⟩, ⟨by (with_reducible repeat (first | apply Kd.V_alloc | apply Kd.V_drewN | apply Kd.V_drew)); exact Kd.V_mono HO1_4.out (fun _ hk => ⟨hk.1.1, ⟨hk.1.2, hk.2⟩⟩)⟩, ⟨by (with_reducible repeat (first | refine blk_drewN ?_ _ | refine blk_drew ?_ | refine blk_alloc ?_ _)); exact BK209.out⟩, ⟨by (with_reducible repeat (first | refine blk_drewN ?_ _ | refine blk_drew ?_ | refine blk_alloc ?_ _)); exact BK210.out⟩, ⟨by repeat (first | (with_reducible first | exact HB.out | apply below_alloc | apply pw_below_drewN | apply below_drew1 | refine below_set ?_ GE209.out | refine below_set ?_ GE210.out) | exact HB.out)⟩⟩
   ·rw [if_neg c10] at H
    have c10b0 : decide (8 < (l1_4.length : Int)) = false := decide_eq_false c10
    have c10b1 : decide (8 < l1_4.length) = false := decide_eq_false (by omega)
    clear c10
    replace H := Option.bind_eq_some_iff.mp H
    obtain ⟨t212, A120, H⟩ := H
    replace H : (if t212 = true then ((phaetonref04_Right.f k a1_0 a1_1 a1_2 a1_3 l1_4).bind fun t213 => (if t213 = true then ((phaetonref04_Rank.f k a0_0 a0_1 a0_2 a0_3 l0_4).bind fun t214 => ((phaetonref04_Rank.f k a1_0 a1_1 a1_2 a1_3 l1_4).bind fun t217 => ((phaetonref01_Same.f k t214 t217).bind fun t220 => (phaetontop_TopLine.j0 k t211 t220 a0_0 a0_1 a0_2 a0_3 l0_4 a1_0 a1_1 a1_2 a1_3 l1_4)))) else (phaetontop_TopLine.j0 k t211 true a0_0 a0_1 a0_2 a0_3 l0_4 a1_0 a1_1 a1_2 a1_3 l1_4))) else (phaetontop_TopLine.j0 k t211 true a0_0 a0_1 a0_2 a0_3 l0_4 a1_0 a1_1 a1_2 a1_3 l1_4)) = some r := H
    have A12 := Aside0.mk A120
    clear A120
    by_cases c13 : t212 = true
    ·subst c13
     have H1 : ((phaetonref04_Right.f k a1_0 a1_1 a1_2 a1_3 l1_4).bind fun t213 => (if t213 = true then ((phaetonref04_Rank.f k a0_0 a0_1 a0_2 a0_3 l0_4).bind fun t214 => ((phaetonref04_Rank.f k a1_0 a1_1 a1_2 a1_3 l1_4).bind fun t217 => ((phaetonref01_Same.f k t214 t217).bind fun t220 => (phaetontop_TopLine.j0 k t211 t220 a0_0 a0_1 a0_2 a0_3 l0_4 a1_0 a1_1 a1_2 a1_3 l1_4)))) else (phaetontop_TopLine.j0 k t211 true a0_0 a0_1 a0_2 a0_3 l0_4 a1_0 a1_1 a1_2 a1_3 l1_4))) = some r := by rw [if_pos rfl] at H; exact H
     clear H
     have H := H1
     clear H1
     replace H := Option.bind_eq_some_iff.mp H
     obtain ⟨t213, A140, H⟩ := H
     replace H : (if t213 = true then ((phaetonref04_Rank.f k a0_0 a0_1 a0_2 a0_3 l0_4).bind fun t214 => ((phaetonref04_Rank.f k a1_0 a1_1 a1_2 a1_3 l1_4).bind fun t217 => ((phaetonref01_Same.f k t214 t217).bind fun t220 => (phaetontop_TopLine.j0 k t211 t220 a0_0 a0_1 a0_2 a0_3 l0_4 a1_0 a1_1 a1_2 a1_3 l1_4)))) else (phaetontop_TopLine.j0 k t211 true a0_0 a0_1 a0_2 a0_3 l0_4 a1_0 a1_1 a1_2 a1_3 l1_4)) = some r := H
     have A14 := Aside0.mk A140
     clear A140
     by_cases c15 : t213 = true
     ·subst c15
      have H1 : ((phaetonref04_Rank.f k a0_0 a0_1 a0_2 a0_3 l0_4).bind fun t214 => ((phaetonref04_Rank.f k a1_0 a1_1 a1_2 a1_3 l1_4).bind fun t217 => ((phaetonref01_Same.f k t214 t217).bind fun t220 => (phaetontop_TopLine.j0 k t211 t220 a0_0 a0_1 a0_2 a0_3 l0_4 a1_0 a1_1 a1_2 a1_3 l1_4)))) = some r := by rw [if_pos rfl] at H; exact H
      clear H
      have H := H1
      clear H1
      replace H := Option.bind_eq_some_iff.mp H
      obtain ⟨t214, A160, H⟩ := H
      replace H : ((phaetonref04_Rank.f k a1_0 a1_1 a1_2 a1_3 l1_4).bind fun t217 => ((phaetonref01_Same.f k t214 t217).bind fun t220 => (phaetontop_TopLine.j0 k t211 t220 a0_0 a0_1 a0_2 a0_3 l0_4 a1_0 a1_1 a1_2 a1_3 l1_4))) = some r := H
      have A16 := Aside0.mk A160
      clear A160
      replace H := Option.bind_eq_some_iff.mp H
      obtain ⟨t217, A170, H⟩ := H
      replace H : ((phaetonref01_Same.f k t214 t217).bind fun t220 => (phaetontop_TopLine.j0 k t211 t220 a0_0 a0_1 a0_2 a0_3 l0_4 a1_0 a1_1 a1_2 a1_3 l1_4)) = some r := H
      have A17 := Aside0.mk A170
      clear A170
      replace H := Option.bind_eq_some_iff.mp H
      obtain ⟨t220, A180, H⟩ := H
      replace H : (phaetontop_TopLine.j0 k t211 t220 a0_0 a0_1 a0_2 a0_3 l0_4 a1_0 a1_1 a1_2 a1_3 l1_4) = some r := H
      have A18 := Aside0.mk A180
      clear A180
      have H' := Aside0.mk H
      clear H
      try go_wp2
      have n0_ := Aside0.mk (Kd.V_drew HO0_4.out)
      have n1_ := Aside0.mk (Kd.V_drew HO1_4.out)
      have n2_ := Aside0.mk (blk_drew BK209.out)
      have n3_ := Aside0.mk (blk_drew BK210.out)
      have n4_ := Aside0.mk (below_drew1 HB.out)
      clear HO0_4
      clear HO1_4
      clear BK209
      clear BK210
      clear HB
      have HO0_4 := n0_
      have HO1_4 := n1_
      have BK209 := n2_
      have BK210 := n3_
      have HB := n4_
      clear n0_ n1_ n2_ n3_ n4_
      refine start_ (n := 27) (S := fun w' => w'.cell? ⟨gb209, 0, none⟩ = some (.bool a0_0) ∧ w'.cell? ⟨gb209, 1, none⟩ = some (.int .i64 a0_1) ∧ w'.cell? ⟨gb209, 2, none⟩ = some (.bool a0_2) ∧ w'.cell? ⟨gb209, 3, none⟩ = some (.int .i64 a0_3) ∧ w'.cell? ⟨gb209, 4, none⟩ = some (.slice A0_4 l0_4.length c0_4) ∧ w'.cell? ⟨gb210, 0, none⟩ = some (.bool a1_0) ∧ w'.cell? ⟨gb210, 1, none⟩ = some (.int .i64 a1_1) ∧ w'.cell? ⟨gb210, 2, none⟩ = some (.bool a1_2) ∧ w'.cell? ⟨gb210, 3, none⟩ = some (.int .i64 a1_3) ∧ w'.cell? ⟨gb210, 4, none⟩ = some (.slice A1_4 l1_4.length c1_4)) (ds := []) #[false, false, false, false, false, false, false, false, false, false, false, false, false, false, false, false, false, false, false, false, false, false, false, false, false, false, false] (by kernel_rfl) rfl rfl ⟨(blk_cell BK209.out 0).trans rfl, (blk_cell BK209.out 1).trans rfl, (blk_cell BK209.out 2).trans rfl, (blk_cell BK209.out 3).trans rfl, (blk_cell BK209.out 4).trans rfl, (blk_cell BK210.out 0).trans rfl, (blk_cell BK210.out 1).trans rfl, (blk_cell BK210.out 2).trans rfl, (blk_cell BK210.out 3).trans rfl, (blk_cell BK210.out 4).trans rfl⟩ (fun hHeld => ?_); refine with_tabW phaetontop_TopLine.tab2 phaetontop_TopLine.bits2 (fun HT_ HW_ => ?_)
      generalize w7.drew = w19 at HO0_4 HO1_4 BK209 BK210 HB hHeld ⊢
      refine pure_ (i := 0) (N := some 17) (v := ?_) (a' := ?_) (HW.tf 1 26) rfl rfl (any_of HT_.out (by kernel_rfl)) (fun _ _ _ h => h) (Or.inl ⟨by rfl, ?_⟩) ?_ ?_
      rotate_left
      ·intro w'
       go_simp
       with_reducible rfl
      rotate_left
      ·simp only [Act.put, HW.LA, HW.LZ, HW.LS, i64_w, i32_w]
       rfl
      refine take_ (i := 1) (N := some 18) (v := ?_) (a' := ?_) (HW.tf 2 25) rfl rfl (take_ofW HT_.out HW_.out (by kernel_rfl)) (fun _ _ _ h => h) (Or.inl ⟨by rfl, ?_⟩) hHeld ?_ ?_
      rotate_left
      ·rintro w' ⟨s0, s1, s2, s3, s4, s5, s6, s7, s8, s9⟩
       go_simp
       with_reducible rfl
      rotate_left
      ·simp only [Act.put, HW.LA, HW.LZ, HW.LS, i64_w, i32_w]
       rfl
      refine pure_ (i := 2) (N := some 19) (v := ?_) (a' := ?_) (HW.tf 3 24) rfl rfl (any_of HT_.out (by kernel_rfl)) (fun _ _ _ h => h) (Or.inl ⟨by rfl, ?_⟩) ?_ ?_
      rotate_left
      ·intro w'
       go_simp
       with_reducible rfl
      rotate_left
      ·simp only [Act.put, HW.LA, HW.LZ, HW.LS, i64_w, i32_w]
       rfl
      refine pure_ (i := 3) (N := some 20) (v := ?_) (a' := ?_) (HW.tf 4 23) rfl rfl (any_of HT_.out (by kernel_rfl)) (fun _ _ _ h => h) (Or.inl ⟨by rfl, ?_⟩) ?_ ?_
      rotate_left
      ·intro w'
       go_simp
       with_reducible rfl
      rotate_left
      ·simp only [Act.put, HW.LA, HW.LZ, HW.LS, i64_w, i32_w]
       rfl
      refine pure_ (i := 4) (N := some 21) (v := ?_) (a' := ?_) (HW.tf 5 22) rfl rfl (any_of HT_.out (by kernel_rfl)) (fun _ _ _ h => h) (Or.inl ⟨by rfl, ?_⟩) ?_ ?_
      rotate_left
      ·intro w'
       go_simp
       with_reducible rfl
      rotate_left
      ·simp only [Act.put, HW.LA, HW.LZ, HW.LS, i64_w, i32_w]
       rfl
      refine pure_ (i := 5) (N := some 22) (v := ?_) (a' := ?_) (HW.tf 6 21) rfl rfl (any_of HT_.out (by kernel_rfl)) (fun _ _ _ h => h) (Or.inl ⟨by rfl, ?_⟩) ?_ ?_
      rotate_left
      ·intro w'
       go_simp
       with_reducible rfl
      rotate_left
      ·simp only [Act.put, HW.LA, HW.LZ, HW.LS, i64_w, i32_w]
       rfl
      refine take_ (i := 6) (N := some 23) (v := ?_) (a' := ?_) (HW.tf 7 20) rfl rfl (take_ofW HT_.out HW_.out (by kernel_rfl)) (fun _ _ _ h => h) (Or.inl ⟨by rfl, ?_⟩) hHeld ?_ ?_
      rotate_left
      ·rintro w' ⟨s0, s1, s2, s3, s4, s5, s6, s7, s8, s9⟩
       go_simp
       with_reducible rfl
      rotate_left
      ·simp only [Act.put, HW.LA, HW.LZ, HW.LS, i64_w, i32_w]
       rfl
      refine pure_ (i := 7) (N := some 24) (v := ?_) (a' := ?_) (HW.tf 8 19) rfl rfl (any_of HT_.out (by kernel_rfl)) (fun _ _ _ h => h) (Or.inl ⟨by rfl, ?_⟩) ?_ ?_
      rotate_left
      ·intro w'
       go_simp
       with_reducible rfl
      rotate_left
      ·simp only [Act.put, HW.LA, HW.LZ, HW.LS, i64_w, i32_w]
       rfl
      refine pure_ (i := 8) (N := some 25) (v := ?_) (a' := ?_) (HW.tf 9 18) rfl rfl (any_of HT_.out (by kernel_rfl)) (fun _ _ _ h => h) (Or.inl ⟨by rfl, ?_⟩) ?_ ?_
      rotate_left
      ·intro w'
       go_simp
       with_reducible rfl
      rotate_left
      ·simp only [Act.put, HW.LA, HW.LZ, HW.LS, i64_w, i32_w]
       rfl
      refine pure_ (i := 9) (N := some 26) (v := ?_) (a' := ?_) (HW.tf 10 17) rfl rfl (any_of HT_.out (by kernel_rfl)) (fun _ _ _ h => h) (Or.inl ⟨by rfl, ?_⟩) ?_ ?_
      rotate_left
      ·intro w'
       go_simp
       with_reducible rfl
      rotate_left
      ·simp only [Act.put, HW.LA, HW.LZ, HW.LS, i64_w, i32_w]
       rfl
      refine pure_ (i := 10) (N := some 27) (v := ?_) (a' := ?_) (HW.tf 11 16) rfl rfl (any_of HT_.out (by kernel_rfl)) (fun _ _ _ h => h) (Or.inl ⟨by rfl, ?_⟩) ?_ ?_
      rotate_left
      ·intro w'
       go_simp
       with_reducible rfl
      rotate_left
      ·simp only [Act.put, HW.LA, HW.LZ, HW.LS, i64_w, i32_w]
       rfl
      refine take_ (i := 11) (N := some 28) (v := ?_) (a' := ?_) (HW.tf 12 15) rfl rfl (take_ofW HT_.out HW_.out (by kernel_rfl)) (fun _ _ _ h => h) (Or.inl ⟨by rfl, ?_⟩) hHeld ?_ ?_
      rotate_left
      ·rintro w' ⟨s0, s1, s2, s3, s4, s5, s6, s7, s8, s9⟩
       go_simp
       with_reducible rfl
      rotate_left
      ·simp only [Act.put, HW.LA, HW.LZ, HW.LS, i64_w, i32_w]
       rfl
      refine one_ (i := 12) (N := some 29) (HW.tf 13 14) rfl rfl (one_of HT_.out (by kernel_rfl)) (by decide) (fun K hK => ?_)
      refine goes_ Try.func7 (by kernel_rfl) rfl #[.agg #[.bool a0_0, .int .i64 a0_1, .bool a0_2, .int .i64 a0_3, .slice A0_4 l0_4.length c0_4]] (by rfl) rfl rfl (by (try simp only [List.map_toArray, List.map_cons, List.map_nil]); first | done | rfl | (simp only [List.length_drop, List.length_take]; rfl)) ?_
      with_reducible refine (phaetonref04_Right.calls k a0_0 a0_1 a0_2 a0_3 _ _ l0_4 true _ ?side1 ?side2 A12.out).mono ?_
      (case side1 => repeat (first | exact (Kd.V_reads' HO0_4.out).2.2 | (with_reducible refine Kd.C_alloc ?_ _) | (with_reducible refine Kd.C_drewN ?_ _) | (with_reducible refine Kd.C_drew ?_)))
      (case side2 => exact (Kd.V_reads' HO0_4.out).2.1)
      rintro e w20 ⟨rfl, hb⟩
      refine ⟨_, rfl, ?_⟩
      have n0_ := Aside0.mk (Kd.V_below (by (with_reducible repeat (first | apply Kd.V_alloc | apply Kd.V_drewN | apply Kd.V_drew)); exact HO0_4.out) hb)
      have n1_ := Aside0.mk (Kd.V_below (by (with_reducible repeat (first | apply Kd.V_alloc | apply Kd.V_drewN | apply Kd.V_drew)); exact HO1_4.out) hb)
      have n2_ := Aside0.mk (blk_below (g := gb209) (o := .cells #[.bool a0_0, .int .i64 a0_1, .bool a0_2, .int .i64 a0_3, .slice A0_4 l0_4.length c0_4] 26 (0, 0)) (by (with_reducible repeat (first | refine blk_drewN ?_ _ | refine blk_drew ?_ | refine blk_alloc ?_ _)); exact BK209.out) hb)
      have n3_ := Aside0.mk (blk_below (g := gb210) (o := .cells #[.bool a1_0, .int .i64 a1_1, .bool a1_2, .int .i64 a1_3, .slice A1_4 l1_4.length c1_4] 26 (0, 0)) (by (with_reducible repeat (first | refine blk_drewN ?_ _ | refine blk_drew ?_ | refine blk_alloc ?_ _)); exact BK210.out) hb)
      have n4_ := Aside0.mk (below_step (by repeat (first | (with_reducible first | exact HB.out | apply below_alloc | apply pw_below_drewN | apply below_drew1 | refine below_set ?_ GE209.out | refine below_set ?_ GE210.out) | exact HB.out)) hb)
      clear HO0_4
      clear HO1_4
      clear BK209
      clear BK210
      clear HB
      have HO0_4 := n0_
      have HO1_4 := n1_
      have BK209 := n2_
      have BK210 := n3_
      have HB := n4_
      clear n0_ n1_ n2_ n3_ n4_
      (try clear hb)
      (try clear hb2)
      (try clear hk)
      (try clear hi)
      refine hK.out _ _ ⟨(blk_cell BK209.out 0).trans rfl, (blk_cell BK209.out 1).trans rfl, (blk_cell BK209.out 2).trans rfl, (blk_cell BK209.out 3).trans rfl, (blk_cell BK209.out 4).trans rfl, (blk_cell BK210.out 0).trans rfl, (blk_cell BK210.out 1).trans rfl, (blk_cell BK210.out 2).trans rfl, (blk_cell BK210.out 3).trans rfl, (blk_cell BK210.out 4).trans rfl⟩ (fun hHeld => ?_)
      clear hK K
      refine norm_ (a' := ?_) ?_ ?_
      rotate_left
      ·show Act.put _ (some 29) _ = _
       simp only [Act.put, HW.LA, HW.LZ, HW.LS, i64_w, i32_w]
       rfl
      refine pure_ (i := 13) (N := some 30) (v := ?_) (a' := ?_) (HW.tf 14 13) rfl rfl (any_of HT_.out (by kernel_rfl)) (fun _ _ _ h => h) (Or.inl ⟨by rfl, ?_⟩) ?_ ?_
      rotate_left
      ·intro w'
       go_simp
       with_reducible rfl
      rotate_left
      ·simp only [Act.put, HW.LA, HW.LZ, HW.LS, i64_w, i32_w]
       rfl
      refine pure_ (i := 14) (N := some 31) (v := ?_) (a' := ?_) (HW.tf 15 12) rfl rfl (any_of HT_.out (by kernel_rfl)) (fun _ _ _ h => h) (Or.inl ⟨by rfl, ?_⟩) ?_ ?_
      rotate_left
      ·intro w'
       go_simp
       with_reducible rfl
      rotate_left
      ·simp only [Act.put, HW.LA, HW.LZ, HW.LS, i64_w, i32_w]
       rfl
      refine pure_ (i := 15) (N := some 32) (v := ?_) (a' := ?_) (HW.tf 16 11) rfl rfl (any_of HT_.out (by kernel_rfl)) (fun _ _ _ h => h) (Or.inl ⟨by rfl, ?_⟩) ?_ ?_
      rotate_left
      ·intro w'
       go_simp
       with_reducible rfl
      rotate_left
      ·simp only [Act.put, HW.LA, HW.LZ, HW.LS, i64_w, i32_w]
       rfl
      refine take_ (i := 16) (N := some 33) (v := ?_) (a' := ?_) (HW.tf 17 10) rfl rfl (take_ofW HT_.out HW_.out (by kernel_rfl)) (fun _ _ _ h => h) (Or.inl ⟨by rfl, ?_⟩) hHeld ?_ ?_
      rotate_left
      ·rintro w' ⟨s0, s1, s2, s3, s4, s5, s6, s7, s8, s9⟩
       go_simp
       with_reducible rfl
      rotate_left
      ·simp only [Act.put, HW.LA, HW.LZ, HW.LS, i64_w, i32_w]
       rfl
      refine one_ (i := 17) (N := some 34) (HW.tf 18 9) rfl rfl (one_of HT_.out (by kernel_rfl)) (by decide) (fun K hK => ?_)
      refine goes_ Try.func7 (by kernel_rfl) rfl #[.agg #[.bool a1_0, .int .i64 a1_1, .bool a1_2, .int .i64 a1_3, .slice A1_4 l1_4.length c1_4]] (by rfl) rfl rfl (by (try simp only [List.map_toArray, List.map_cons, List.map_nil]); first | done | rfl | (simp only [List.length_drop, List.length_take]; rfl)) ?_
      with_reducible refine (phaetonref04_Right.calls k a1_0 a1_1 a1_2 a1_3 _ _ l1_4 true _ ?side1 ?side2 A14.out).mono ?_
      (case side1 => repeat (first | exact (Kd.V_reads' HO1_4.out).2.2 | (with_reducible refine Kd.C_alloc ?_ _) | (with_reducible refine Kd.C_drewN ?_ _) | (with_reducible refine Kd.C_drew ?_)))
      (case side2 => exact (Kd.V_reads' HO1_4.out).2.1)
      rintro e w21 ⟨rfl, hb⟩
      refine ⟨_, rfl, ?_⟩
      have n0_ := Aside0.mk (Kd.V_below (by (with_reducible repeat (first | apply Kd.V_alloc | apply Kd.V_drewN | apply Kd.V_drew)); exact HO0_4.out) hb)
      have n1_ := Aside0.mk (Kd.V_below (by (with_reducible repeat (first | apply Kd.V_alloc | apply Kd.V_drewN | apply Kd.V_drew)); exact HO1_4.out) hb)
      have n2_ := Aside0.mk (blk_below (g := gb209) (o := .cells #[.bool a0_0, .int .i64 a0_1, .bool a0_2, .int .i64 a0_3, .slice A0_4 l0_4.length c0_4] 26 (0, 0)) (by (with_reducible repeat (first | refine blk_drewN ?_ _ | refine blk_drew ?_ | refine blk_alloc ?_ _)); exact BK209.out) hb)
      have n3_ := Aside0.mk (blk_below (g := gb210) (o := .cells #[.bool a1_0, .int .i64 a1_1, .bool a1_2, .int .i64 a1_3, .slice A1_4 l1_4.length c1_4] 26 (0, 0)) (by (with_reducible repeat (first | refine blk_drewN ?_ _ | refine blk_drew ?_ | refine blk_alloc ?_ _)); exact BK210.out) hb)
      have n4_ := Aside0.mk (below_step (by repeat (first | (with_reducible first | exact HB.out | apply below_alloc | apply pw_below_drewN | apply below_drew1 | refine below_set ?_ GE209.out | refine below_set ?_ GE210.out) | exact HB.out)) hb)
      clear HO0_4
      clear HO1_4
      clear BK209
      clear BK210
      clear HB
      have HO0_4 := n0_
      have HO1_4 := n1_
      have BK209 := n2_
      have BK210 := n3_
      have HB := n4_
      clear n0_ n1_ n2_ n3_ n4_
      (try clear hb)
      (try clear hb2)
      (try clear hk)
      (try clear hi)
      refine hK.out _ _ ⟨(blk_cell BK209.out 0).trans rfl, (blk_cell BK209.out 1).trans rfl, (blk_cell BK209.out 2).trans rfl, (blk_cell BK209.out 3).trans rfl, (blk_cell BK209.out 4).trans rfl, (blk_cell BK210.out 0).trans rfl, (blk_cell BK210.out 1).trans rfl, (blk_cell BK210.out 2).trans rfl, (blk_cell BK210.out 3).trans rfl, (blk_cell BK210.out 4).trans rfl⟩ (fun hHeld => ?_)
      clear hK K
      refine norm_ (a' := ?_) ?_ ?_
      rotate_left
      ·show Act.put _ (some 34) _ = _
       simp only [Act.put, HW.LA, HW.LZ, HW.LS, i64_w, i32_w]
       rfl
      refine pure_ (i := 18) (N := some 35) (v := ?_) (a' := ?_) (HW.tf 19 8) rfl rfl (any_of HT_.out (by kernel_rfl)) (fun _ _ _ h => h) (Or.inl ⟨by rfl, ?_⟩) ?_ ?_
      rotate_left
      ·intro w'
       go_simp
       with_reducible rfl
      rotate_left
      ·simp only [Act.put, HW.LA, HW.LZ, HW.LS, i64_w, i32_w]
       rfl
      refine pure_ (i := 19) (N := some 36) (v := ?_) (a' := ?_) (HW.tf 20 7) rfl rfl (any_of HT_.out (by kernel_rfl)) (fun _ _ _ h => h) (Or.inl ⟨by rfl, ?_⟩) ?_ ?_
      rotate_left
      ·intro w'
       go_simp
       with_reducible rfl
      rotate_left
      ·simp only [Act.put, HW.LA, HW.LZ, HW.LS, i64_w, i32_w]
       rfl
      refine pure_ (i := 20) (N := some 37) (v := ?_) (a' := ?_) (HW.tf 21 6) rfl rfl (any_of HT_.out (by kernel_rfl)) (fun _ _ _ h => h) (Or.inl ⟨by rfl, ?_⟩) ?_ ?_
      rotate_left
      ·intro w'
       go_simp
       with_reducible rfl
      rotate_left
      ·simp only [Act.put, HW.LA, HW.LZ, HW.LS, i64_w, i32_w]
       rfl
      refine take_ (i := 21) (N := some 38) (v := ?_) (a' := ?_) (HW.tf 22 5) rfl rfl (take_ofW HT_.out HW_.out (by kernel_rfl)) (fun _ _ _ h => h) (Or.inl ⟨by rfl, ?_⟩) hHeld ?_ ?_
      rotate_left
      ·rintro w' ⟨s0, s1, s2, s3, s4, s5, s6, s7, s8, s9⟩
       go_simp
       with_reducible rfl
      rotate_left
      ·simp only [Act.put, HW.LA, HW.LZ, HW.LS, i64_w, i32_w]
       rfl
      refine take_ (i := 23) (N := some 40) (v := ?_) (a' := ?_) #[true, true, true, true, true, true, true, true, true, true, true, true, true, true, true, true, true, true, true, true, true, true, false, true, false, false, false] rfl rfl (take_ofW HT_.out HW_.out (by kernel_rfl)) (fun _ _ _ h => h) (Or.inl ⟨by rfl, ?_⟩) hHeld ?_ ?_
      rotate_left
      ·rintro w' ⟨s0, s1, s2, s3, s4, s5, s6, s7, s8, s9⟩
       go_simp
       with_reducible rfl
      rotate_left
      ·simp only [Act.put, HW.LA, HW.LZ, HW.LS, i64_w, i32_w]
       rfl
      refine one_ (i := 22) (N := some 39) (HW.tf 24 3) rfl rfl (one_of HT_.out (by kernel_rfl)) (by decide) (fun K hK => ?_)
      refine goes_ Try.func11 (by kernel_rfl) rfl #[.agg #[.bool a0_0, .int .i64 a0_1, .bool a0_2, .int .i64 a0_3, .slice A0_4 l0_4.length c0_4]] (by rfl) rfl rfl (by (try simp only [List.map_toArray, List.map_cons, List.map_nil]); first | done | rfl | (simp only [List.length_drop, List.length_take]; rfl)) ?_
      with_reducible refine (phaetonref04_Rank.calls k a0_0 a0_1 a0_2 a0_3 _ _ l0_4 t214 _ ?side1 ?side2 A16.out).mono ?_
      (case side1 => repeat (first | exact (Kd.V_reads' HO0_4.out).2.2 | (with_reducible refine Kd.C_alloc ?_ _) | (with_reducible refine Kd.C_drewN ?_ _) | (with_reducible refine Kd.C_drew ?_)))
      (case side2 => exact (Kd.V_reads' HO0_4.out).2.1)
      rintro e w22 ⟨v215, rfl, ho0, hb⟩
      refine ⟨_, rfl, ?_⟩
      have n0_ := Aside0.mk (Kd.V_elder' (by (with_reducible repeat (first | apply Kd.V_alloc | apply Kd.V_drewN | apply Kd.V_drew)); exact HO0_4.out) (Kd.R_base ho0) hb)
      have n1_ := Aside0.mk (Kd.V_elder' (by (with_reducible repeat (first | apply Kd.V_alloc | apply Kd.V_drewN | apply Kd.V_drew)); exact HO1_4.out) (Kd.R_base ho0) hb)
      have n2_ := Aside0.mk (Kd.R_lower (Kd.R_newM (M := fun k_ => (w.heap.size ≤ k_)) ho0 (below_size (by repeat (first | (with_reducible first | exact HB.out | apply below_alloc | apply pw_below_drewN | apply below_drew1 | refine below_set ?_ GE209.out | refine below_set ?_ GE210.out) | exact HB.out))) (fun k_ h_ => h_)) (below_size (by repeat (first | (with_reducible first | exact HB.out | apply below_alloc | apply pw_below_drewN | apply below_drew1 | refine below_set ?_ GE209.out | refine below_set ?_ GE210.out) | exact HB.out))))
      have n3_ := Aside0.mk (blk_below (g := gb209) (o := .cells #[.bool a0_0, .int .i64 a0_1, .bool a0_2, .int .i64 a0_3, .slice A0_4 l0_4.length c0_4] 26 (0, 0)) (by (with_reducible repeat (first | refine blk_drewN ?_ _ | refine blk_drew ?_ | refine blk_alloc ?_ _)); exact BK209.out) hb)
      have n4_ := Aside0.mk (blk_below (g := gb210) (o := .cells #[.bool a1_0, .int .i64 a1_1, .bool a1_2, .int .i64 a1_3, .slice A1_4 l1_4.length c1_4] 26 (0, 0)) (by (with_reducible repeat (first | refine blk_drewN ?_ _ | refine blk_drew ?_ | refine blk_alloc ?_ _)); exact BK210.out) hb)
      have n5_ := Aside0.mk (below_step (by repeat (first | (with_reducible first | exact HB.out | apply below_alloc | apply pw_below_drewN | apply below_drew1 | refine below_set ?_ GE209.out | refine below_set ?_ GE210.out) | exact HB.out)) hb)
      clear HO0_4
      clear HO1_4
      clear BK209
      clear BK210
      clear HB
      have HO0_4 := n0_
      have HO1_4 := n1_
      have HO216 := n2_
      have BK209 := n3_
      have BK210 := n4_
      have HB := n5_
      clear n0_ n1_ n2_ n3_ n4_ n5_
      (try clear hb)
      (try clear hb2)
      (try clear hk)
      (try clear hi)
      (try clear ho0)
      refine hK.out _ _ ⟨(blk_cell BK209.out 0).trans rfl, (blk_cell BK209.out 1).trans rfl, (blk_cell BK209.out 2).trans rfl, (blk_cell BK209.out 3).trans rfl, (blk_cell BK209.out 4).trans rfl, (blk_cell BK210.out 0).trans rfl, (blk_cell BK210.out 1).trans rfl, (blk_cell BK210.out 2).trans rfl, (blk_cell BK210.out 3).trans rfl, (blk_cell BK210.out 4).trans rfl⟩ (fun hHeld => ?_)
      clear hK K
      refine norm_ (a' := ?_) ?_ ?_
      rotate_left
      ·show Act.put _ (some 39) _ = _
       simp only [Act.put, HW.LA, HW.LZ, HW.LS, i64_w, i32_w]
       rfl
      refine one_ (i := 24) (N := some 41) (HW.tf 25 2) rfl rfl (one_of HT_.out (by kernel_rfl)) (by decide) (fun K hK => ?_)
      refine goes_ Try.func11 (by kernel_rfl) rfl #[.agg #[.bool a1_0, .int .i64 a1_1, .bool a1_2, .int .i64 a1_3, .slice A1_4 l1_4.length c1_4]] (by rfl) rfl rfl (by (try simp only [List.map_toArray, List.map_cons, List.map_nil]); first | done | rfl | (simp only [List.length_drop, List.length_take]; rfl)) ?_
      with_reducible refine (phaetonref04_Rank.calls k a1_0 a1_1 a1_2 a1_3 _ _ l1_4 t217 _ ?side1 ?side2 A17.out).mono ?_
      (case side1 => repeat (first | exact (Kd.V_reads' HO1_4.out).2.2 | (with_reducible refine Kd.C_alloc ?_ _) | (with_reducible refine Kd.C_drewN ?_ _) | (with_reducible refine Kd.C_drew ?_)))
      (case side2 => exact (Kd.V_reads' HO1_4.out).2.1)
      rintro e w23 ⟨v218, rfl, ho0, hb⟩
      refine ⟨_, rfl, ?_⟩
      have n0_ := Aside0.mk (Kd.V_elder' (by (with_reducible repeat (first | apply Kd.V_alloc | apply Kd.V_drewN | apply Kd.V_drew)); exact HO0_4.out) (Kd.R_base ho0) hb)
      have n1_ := Aside0.mk (Kd.V_elder' (by (with_reducible repeat (first | apply Kd.V_alloc | apply Kd.V_drewN | apply Kd.V_drew)); exact HO1_4.out) (Kd.R_base ho0) hb)
      have n2_ := Aside0.mk (Kd.R_elder' (by (with_reducible repeat (first | apply Kd.R_alloc | apply Kd.R_drewN | apply Kd.R_drew)); exact HO216.out) (Kd.R_base ho0) hb)
      have n3_ := Aside0.mk (Kd.R_lower (Kd.R_new' (Kd.R_newM (M := fun k_ => (w.heap.size ≤ k_)) ho0 (below_size (by repeat (first | (with_reducible first | exact HB.out | apply below_alloc | apply pw_below_drewN | apply below_drew1 | refine below_set ?_ GE209.out | refine below_set ?_ GE210.out) | exact HB.out))) (fun k_ h_ => h_)) (Kd.R_lt (by (with_reducible repeat (first | apply Kd.R_alloc | apply Kd.R_drewN | apply Kd.R_drew)); exact HO216.out))) (below_size (by repeat (first | (with_reducible first | exact HB.out | apply below_alloc | apply pw_below_drewN | apply below_drew1 | refine below_set ?_ GE209.out | refine below_set ?_ GE210.out) | exact HB.out))))
      have n4_ := Aside0.mk (blk_below (g := gb209) (o := .cells #[.bool a0_0, .int .i64 a0_1, .bool a0_2, .int .i64 a0_3, .slice A0_4 l0_4.length c0_4] 26 (0, 0)) (by (with_reducible repeat (first | refine blk_drewN ?_ _ | refine blk_drew ?_ | refine blk_alloc ?_ _)); exact BK209.out) hb)
      have n5_ := Aside0.mk (blk_below (g := gb210) (o := .cells #[.bool a1_0, .int .i64 a1_1, .bool a1_2, .int .i64 a1_3, .slice A1_4 l1_4.length c1_4] 26 (0, 0)) (by (with_reducible repeat (first | refine blk_drewN ?_ _ | refine blk_drew ?_ | refine blk_alloc ?_ _)); exact BK210.out) hb)
      have n6_ := Aside0.mk (below_step (by repeat (first | (with_reducible first | exact HB.out | apply below_alloc | apply pw_below_drewN | apply below_drew1 | refine below_set ?_ GE209.out | refine below_set ?_ GE210.out) | exact HB.out)) hb)
      clear HO0_4
      clear HO1_4
      clear HO216
      clear BK209
      clear BK210
      clear HB
      have HO0_4 := n0_
      have HO1_4 := n1_
      have HO216 := n2_
      have HO219 := n3_
      have BK209 := n4_
      have BK210 := n5_
      have HB := n6_
      clear n0_ n1_ n2_ n3_ n4_ n5_ n6_
      (try clear hb)
      (try clear hb2)
      (try clear hk)
      (try clear hi)
      (try clear ho0)
      obtain ⟨Ao24, co24, eo24⟩ := Kd.R_slice HO216.out
      (first | subst eo24 | (injection eo24 with f1_ f2_ f3_; have f4_ := f1_.symm; have f5_ := f3_.symm; clear f1_ f2_ f3_; subst f4_; subst f5_))
      obtain ⟨Ao25, co25, eo25⟩ := Kd.R_slice HO219.out
      (first | subst eo25 | (injection eo25 with f1_ f2_ f3_; have f4_ := f1_.symm; have f5_ := f3_.symm; clear f1_ f2_ f3_; subst f4_; subst f5_))
      refine hK.out _ _ ⟨(blk_cell BK209.out 0).trans rfl, (blk_cell BK209.out 1).trans rfl, (blk_cell BK209.out 2).trans rfl, (blk_cell BK209.out 3).trans rfl, (blk_cell BK209.out 4).trans rfl, (blk_cell BK210.out 0).trans rfl, (blk_cell BK210.out 1).trans rfl, (blk_cell BK210.out 2).trans rfl, (blk_cell BK210.out 3).trans rfl, (blk_cell BK210.out 4).trans rfl⟩ (fun hHeld => ?_)
      clear hK K
      refine norm_ (a' := ?_) ?_ ?_
      rotate_left
      ·show Act.put _ (some 41) _ = _
       simp only [Act.put, HW.LA, HW.LZ, HW.LS, i64_w, i32_w]
       rfl
      refine one_ (i := 25) (N := some 42) (HW.tf 26 1) rfl rfl (one_of HT_.out (by kernel_rfl)) (by decide) (fun K hK => ?_)
      refine goes_ Try.func9 (by kernel_rfl) rfl #[.slice Ao24 t214.length co24, .slice Ao25 t217.length co25] (by rfl) rfl rfl (by (try simp only [List.map_toArray, List.map_cons, List.map_nil]); first | done | rfl | (simp only [List.length_drop, List.length_take]; rfl)) ?_
      with_reducible refine (phaetonref01_Same.calls k _ _ t214 _ _ t217 t220 _ ?side1 ?side2 ?side3 ?side4 A18.out).mono ?_
      (case side1 => repeat (first | exact (Kd.R_reads' HO216.out).2.2 | (with_reducible refine Kd.C_alloc ?_ _) | (with_reducible refine Kd.C_drewN ?_ _) | (with_reducible refine Kd.C_drew ?_)))
      (case side2 => exact (Kd.R_reads' HO216.out).2.1)
      (case side3 => repeat (first | exact (Kd.R_reads' HO219.out).2.2 | (with_reducible refine Kd.C_alloc ?_ _) | (with_reducible refine Kd.C_drewN ?_ _) | (with_reducible refine Kd.C_drew ?_)))
      (case side4 => exact (Kd.R_reads' HO219.out).2.1)
      rintro e w' ⟨rfl, ⟨nd, rfl⟩⟩
      refine ⟨_, rfl, ?_⟩
      refine hK.out _ _ ⟨(blk_cell BK209.out 0).trans rfl, (blk_cell BK209.out 1).trans rfl, (blk_cell BK209.out 2).trans rfl, (blk_cell BK209.out 3).trans rfl, (blk_cell BK209.out 4).trans rfl, (blk_cell BK210.out 0).trans rfl, (blk_cell BK210.out 1).trans rfl, (blk_cell BK210.out 2).trans rfl, (blk_cell BK210.out 3).trans rfl, (blk_cell BK210.out 4).trans rfl⟩ (fun hHeld => ?_)
      clear hK K
      refine norm_ (a' := ?_) ?_ ?_
      rotate_left
      ·show Act.put _ (some 42) _ = _
       simp only [Act.put, HW.LA, HW.LZ, HW.LS, i64_w, i32_w]
       rfl
      refine pure_ (i := 26) (N := some 43) (v := ?_) (a' := ?_) (HW.tf 27 0) rfl rfl (any_of HT_.out (by kernel_rfl)) (fun _ _ _ h => h) (Or.inl ⟨by rfl, ?_⟩) ?_ ?_
      rotate_left
      ·intro w'
       go_simp
       with_reducible rfl
      rotate_left
      ·simp only [Act.put, HW.LA, HW.LZ, HW.LS, i64_w, i32_w]
       rfl
      refine done_ (done_of HT_.out (by kernel_rfl)) ?_
      try go_wp2
      go_meet
      case rel => exact ⟨_, (t220), (by first | rfl | (simp; done) | (simp [*]; done)), H', ⟨by first | omega | exact Nat.le_refl _⟩, ⟨by (with_reducible repeat (first | apply Kd.V_alloc | apply Kd.V_drewN | apply Kd.V_drew)); exact Kd.V_mono HO0_4.out (fun _ hk => ⟨hk.1.1.1.1, ⟨hk.1.1.1.2, hk.1.1.2⟩⟩)⟩, ⟨by (with_reducible repeat (first | apply Kd.V_alloc | apply Kd.V_drewN | apply Kd.V_drew)); exact Kd.V_mono HO1_4.out (fun _ hk => ⟨hk.1.1.1.1, ⟨hk.1.1.1.2, hk.1.1.2⟩⟩)⟩, ⟨by (with_reducible repeat (first | refine blk_drewN ?_ _ | refine blk_drew ?_ | refine blk_alloc ?_ _)); exact BK209.out⟩, ⟨by (with_reducible repeat (first | refine blk_drewN ?_ _ | refine blk_drew ?_ | refine blk_alloc ?_ _)); exact BK210.out⟩, ⟨by repeat (first | (with_reducible first | exact HB.out | apply below_alloc | apply pw_below_drewN | apply below_drew1 | refine below_set ?_ GE209.out | refine below_set ?_ GE210.out) | exact HB.out)⟩⟩
     ·replace c15 := Bool.eq_false_iff.mpr c15
      subst c15
      have H1 : (phaetontop_TopLine.j0 k t211 true a0_0 a0_1 a0_2 a0_3 l0_4 a1_0 a1_1 a1_2 a1_3 l1_4) = some r := by rw [if_neg (show ¬ (false = true) by decide)] at H; exact H
      clear H
      have H := H1
      clear H1
      have H' := Aside0.mk H
      clear H
      try go_wp2
      have n0_ := Aside0.mk (Kd.V_drew HO0_4.out)
      have n1_ := Aside0.mk (Kd.V_drew HO1_4.out)
      have n2_ := Aside0.mk (blk_drew BK209.out)
      have n3_ := Aside0.mk (blk_drew BK210.out)
      have n4_ := Aside0.mk (below_drew1 HB.out)
      clear HO0_4
      clear HO1_4
      clear BK209
      clear BK210
      clear HB
      have HO0_4 := n0_
      have HO1_4 := n1_
      have BK209 := n2_
      have BK210 := n3_
      have HB := n4_
      clear n0_ n1_ n2_ n3_ n4_
      refine start_ (n := 27) (S := fun w' => w'.cell? ⟨gb209, 0, none⟩ = some (.bool a0_0) ∧ w'.cell? ⟨gb209, 1, none⟩ = some (.int .i64 a0_1) ∧ w'.cell? ⟨gb209, 2, none⟩ = some (.bool a0_2) ∧ w'.cell? ⟨gb209, 3, none⟩ = some (.int .i64 a0_3) ∧ w'.cell? ⟨gb209, 4, none⟩ = some (.slice A0_4 l0_4.length c0_4) ∧ w'.cell? ⟨gb210, 0, none⟩ = some (.bool a1_0) ∧ w'.cell? ⟨gb210, 1, none⟩ = some (.int .i64 a1_1) ∧ w'.cell? ⟨gb210, 2, none⟩ = some (.bool a1_2) ∧ w'.cell? ⟨gb210, 3, none⟩ = some (.int .i64 a1_3) ∧ w'.cell? ⟨gb210, 4, none⟩ = some (.slice A1_4 l1_4.length c1_4)) (ds := []) #[false, false, false, false, false, false, false, false, false, false, false, false, false, false, false, false, false, false, false, false, false, false, false, false, false, false, false] (by kernel_rfl) rfl rfl ⟨(blk_cell BK209.out 0).trans rfl, (blk_cell BK209.out 1).trans rfl, (blk_cell BK209.out 2).trans rfl, (blk_cell BK209.out 3).trans rfl, (blk_cell BK209.out 4).trans rfl, (blk_cell BK210.out 0).trans rfl, (blk_cell BK210.out 1).trans rfl, (blk_cell BK210.out 2).trans rfl, (blk_cell BK210.out 3).trans rfl, (blk_cell BK210.out 4).trans rfl⟩ (fun hHeld => ?_); refine with_tabW phaetontop_TopLine.tab2 phaetontop_TopLine.bits2 (fun HT_ HW_ => ?_)
      generalize w7.drew = w26 at HO0_4 HO1_4 BK209 BK210 HB hHeld ⊢
      refine pure_ (i := 0) (N := some 17) (v := ?_) (a' := ?_) (HW.tf 1 26) rfl rfl (any_of HT_.out (by kernel_rfl)) (fun _ _ _ h => h) (Or.inl ⟨by rfl, ?_⟩) ?_ ?_
      rotate_left
      ·intro w'
       go_simp
       with_reducible rfl
      rotate_left
      ·simp only [Act.put, HW.LA, HW.LZ, HW.LS, i64_w, i32_w]
       rfl
      refine take_ (i := 1) (N := some 18) (v := ?_) (a' := ?_) (HW.tf 2 25) rfl rfl (take_ofW HT_.out HW_.out (by kernel_rfl)) (fun _ _ _ h => h) (Or.inl ⟨by rfl, ?_⟩) hHeld ?_ ?_
      rotate_left
      ·rintro w' ⟨s0, s1, s2, s3, s4, s5, s6, s7, s8, s9⟩
       go_simp
       with_reducible rfl
      rotate_left
      ·simp only [Act.put, HW.LA, HW.LZ, HW.LS, i64_w, i32_w]
       rfl
      refine pure_ (i := 2) (N := some 19) (v := ?_) (a' := ?_) (HW.tf 3 24) rfl rfl (any_of HT_.out (by kernel_rfl)) (fun _ _ _ h => h) (Or.inl ⟨by rfl, ?_⟩) ?_ ?_
      rotate_left
      ·intro w'
       go_simp
       with_reducible rfl
      rotate_left
      ·simp only [Act.put, HW.LA, HW.LZ, HW.LS, i64_w, i32_w]
       rfl
      refine pure_ (i := 3) (N := some 20) (v := ?_) (a' := ?_) (HW.tf 4 23) rfl rfl (any_of HT_.out (by kernel_rfl)) (fun _ _ _ h => h) (Or.inl ⟨by rfl, ?_⟩) ?_ ?_
      rotate_left
      ·intro w'
       go_simp
       with_reducible rfl
      rotate_left
      ·simp only [Act.put, HW.LA, HW.LZ, HW.LS, i64_w, i32_w]
       rfl
      refine pure_ (i := 4) (N := some 21) (v := ?_) (a' := ?_) (HW.tf 5 22) rfl rfl (any_of HT_.out (by kernel_rfl)) (fun _ _ _ h => h) (Or.inl ⟨by rfl, ?_⟩) ?_ ?_
      rotate_left
      ·intro w'
       go_simp
       with_reducible rfl
      rotate_left
      ·simp only [Act.put, HW.LA, HW.LZ, HW.LS, i64_w, i32_w]
       rfl
      refine pure_ (i := 5) (N := some 22) (v := ?_) (a' := ?_) (HW.tf 6 21) rfl rfl (any_of HT_.out (by kernel_rfl)) (fun _ _ _ h => h) (Or.inl ⟨by rfl, ?_⟩) ?_ ?_
      rotate_left
      ·intro w'
       go_simp
       with_reducible rfl
      rotate_left
      ·simp only [Act.put, HW.LA, HW.LZ, HW.LS, i64_w, i32_w]
       rfl
      refine take_ (i := 6) (N := some 23) (v := ?_) (a' := ?_) (HW.tf 7 20) rfl rfl (take_ofW HT_.out HW_.out (by kernel_rfl)) (fun _ _ _ h => h) (Or.inl ⟨by rfl, ?_⟩) hHeld ?_ ?_
      rotate_left
      ·rintro w' ⟨s0, s1, s2, s3, s4, s5, s6, s7, s8, s9⟩
       go_simp
       with_reducible rfl
      rotate_left
      ·simp only [Act.put, HW.LA, HW.LZ, HW.LS, i64_w, i32_w]
       rfl
      refine pure_ (i := 7) (N := some 24) (v := ?_) (a' := ?_) (HW.tf 8 19) rfl rfl (any_of HT_.out (by kernel_rfl)) (fun _ _ _ h => h) (Or.inl ⟨by rfl, ?_⟩) ?_ ?_
      rotate_left
      ·intro w'
       go_simp
       with_reducible rfl
      rotate_left
      ·simp only [Act.put, HW.LA, HW.LZ, HW.LS, i64_w, i32_w]
       rfl
      refine pure_ (i := 8) (N := some 25) (v := ?_) (a' := ?_) (HW.tf 9 18) rfl rfl (any_of HT_.out (by kernel_rfl)) (fun _ _ _ h => h) (Or.inl ⟨by rfl, ?_⟩) ?_ ?_
      rotate_left
      ·intro w'
       go_simp
       with_reducible rfl
      rotate_left
      ·simp only [Act.put, HW.LA, HW.LZ, HW.LS, i64_w, i32_w]
       rfl
      refine pure_ (i := 9) (N := some 26) (v := ?_) (a' := ?_) (HW.tf 10 17) rfl rfl (any_of HT_.out (by kernel_rfl)) (fun _ _ _ h => h) (Or.inl ⟨by rfl, ?_⟩) ?_ ?_
      rotate_left
      ·intro w'
       go_simp
       with_reducible rfl
      rotate_left
      ·simp only [Act.put, HW.LA, HW.LZ, HW.LS, i64_w, i32_w]
       rfl
      refine pure_ (i := 10) (N := some 27) (v := ?_) (a' := ?_) (HW.tf 11 16) rfl rfl (any_of HT_.out (by kernel_rfl)) (fun _ _ _ h => h) (Or.inl ⟨by rfl, ?_⟩) ?_ ?_
      rotate_left
      ·intro w'
       go_simp
       with_reducible rfl
      rotate_left
      ·simp only [Act.put, HW.LA, HW.LZ, HW.LS, i64_w, i32_w]
       rfl
      refine take_ (i := 11) (N := some 28) (v := ?_) (a' := ?_) (HW.tf 12 15) rfl rfl (take_ofW HT_.out HW_.out (by kernel_rfl)) (fun _ _ _ h => h) (Or.inl ⟨by rfl, ?_⟩) hHeld ?_ ?_
      rotate_left
      ·rintro w' ⟨s0, s1, s2, s3, s4, s5, s6, s7, s8, s9⟩
       go_simp
       with_reducible rfl
      rotate_left
      ·simp only [Act.put, HW.LA, HW.LZ, HW.LS, i64_w, i32_w]
       rfl
      refine one_ (i := 12) (N := some 29) (HW.tf 13 14) rfl rfl (one_of HT_.out (by kernel_rfl)) (by decide) (fun K hK => ?_)
      refine goes_ Try.func7 (by kernel_rfl) rfl #[.agg #[.bool a0_0, .int .i64 a0_1, .bool a0_2, .int .i64 a0_3, .slice A0_4 l0_4.length c0_4]] (by rfl) rfl rfl (by (try simp only [List.map_toArray, List.map_cons, List.map_nil]); first | done | rfl | (simp only [List.length_drop, List.length_take]; rfl)) ?_
      with_reducible refine (phaetonref04_Right.calls k a0_0 a0_1 a0_2 a0_3 _ _ l0_4 true _ ?side1 ?side2 A12.out).mono ?_
      (case side1 => repeat (first | exact (Kd.V_reads' HO0_4.out).2.2 | (with_reducible refine Kd.C_alloc ?_ _) | (with_reducible refine Kd.C_drewN ?_ _) | (with_reducible refine Kd.C_drew ?_)))
      (case side2 => exact (Kd.V_reads' HO0_4.out).2.1)
      rintro e w27 ⟨rfl, hb⟩
      refine ⟨_, rfl, ?_⟩
      have n0_ := Aside0.mk (Kd.V_below (by (with_reducible repeat (first | apply Kd.V_alloc | apply Kd.V_drewN | apply Kd.V_drew)); exact HO0_4.out) hb)
      have n1_ := Aside0.mk (Kd.V_below (by (with_reducible repeat (first | apply Kd.V_alloc | apply Kd.V_drewN | apply Kd.V_drew)); exact HO1_4.out) hb)
      have n2_ := Aside0.mk (blk_below (g := gb209) (o := .cells #[.bool a0_0, .int .i64 a0_1, .bool a0_2, .int .i64 a0_3, .slice A0_4 l0_4.length c0_4] 26 (0, 0)) (by (with_reducible repeat (first | refine blk_drewN ?_ _ | refine blk_drew ?_ | refine blk_alloc ?_ _)); exact BK209.out) hb)
      have n3_ := Aside0.mk (blk_below (g := gb210) (o := .cells #[.bool a1_0, .int .i64 a1_1, .bool a1_2, .int .i64 a1_3, .slice A1_4 l1_4.length c1_4] 26 (0, 0)) (by (with_reducible repeat (first | refine blk_drewN ?_ _ | refine blk_drew ?_ | refine blk_alloc ?_ _)); exact BK210.out) hb)
      have n4_ := Aside0.mk (below_step (by repeat (first | (with_reducible first | exact HB.out | apply below_alloc | apply pw_below_drewN | apply below_drew1 | refine below_set ?_ GE209.out | refine below_set ?_ GE210.out) | exact HB.out)) hb)
      clear HO0_4
      clear HO1_4
      clear BK209
      clear BK210
      clear HB
      have HO0_4 := n0_
      have HO1_4 := n1_
      have BK209 := n2_
      have BK210 := n3_
      have HB := n4_
      clear n0_ n1_ n2_ n3_ n4_
      (try clear hb)
      (try clear hb2)
      (try clear hk)
      (try clear hi)
      refine hK.out _ _ ⟨(blk_cell BK209.out 0).trans rfl, (blk_cell BK209.out 1).trans rfl, (blk_cell BK209.out 2).trans rfl, (blk_cell BK209.out 3).trans rfl, (blk_cell BK209.out 4).trans rfl, (blk_cell BK210.out 0).trans rfl, (blk_cell BK210.out 1).trans rfl, (blk_cell BK210.out 2).trans rfl, (blk_cell BK210.out 3).trans rfl, (blk_cell BK210.out 4).trans rfl⟩ (fun hHeld => ?_)
      clear hK K
      refine norm_ (a' := ?_) ?_ ?_
      rotate_left
      ·show Act.put _ (some 29) _ = _
       simp only [Act.put, HW.LA, HW.LZ, HW.LS, i64_w, i32_w]
       rfl
      refine pure_ (i := 13) (N := some 30) (v := ?_) (a' := ?_) (HW.tf 14 13) rfl rfl (any_of HT_.out (by kernel_rfl)) (fun _ _ _ h => h) (Or.inl ⟨by rfl, ?_⟩) ?_ ?_
      rotate_left
      ·intro w'
       go_simp
       with_reducible rfl
      rotate_left
      ·simp only [Act.put, HW.LA, HW.LZ, HW.LS, i64_w, i32_w]
       rfl
      refine pure_ (i := 14) (N := some 31) (v := ?_) (a' := ?_) (HW.tf 15 12) rfl rfl (any_of HT_.out (by kernel_rfl)) (fun _ _ _ h => h) (Or.inl ⟨by rfl, ?_⟩) ?_ ?_
      rotate_left
      ·intro w'
       go_simp
       with_reducible rfl
      rotate_left
      ·simp only [Act.put, HW.LA, HW.LZ, HW.LS, i64_w, i32_w]
       rfl
      refine pure_ (i := 15) (N := some 32) (v := ?_) (a' := ?_) (HW.tf 16 11) rfl rfl (any_of HT_.out (by kernel_rfl)) (fun _ _ _ h => h) (Or.inl ⟨by rfl, ?_⟩) ?_ ?_
      rotate_left
      ·intro w'
       go_simp
       with_reducible rfl
      rotate_left
      ·simp only [Act.put, HW.LA, HW.LZ, HW.LS, i64_w, i32_w]
       rfl
      refine take_ (i := 16) (N := some 33) (v := ?_) (a' := ?_) (HW.tf 17 10) rfl rfl (take_ofW HT_.out HW_.out (by kernel_rfl)) (fun _ _ _ h => h) (Or.inl ⟨by rfl, ?_⟩) hHeld ?_ ?_
      rotate_left
      ·rintro w' ⟨s0, s1, s2, s3, s4, s5, s6, s7, s8, s9⟩
       go_simp
       with_reducible rfl
      rotate_left
      ·simp only [Act.put, HW.LA, HW.LZ, HW.LS, i64_w, i32_w]
       rfl
      refine one_ (i := 17) (N := some 34) (HW.tf 18 9) rfl rfl (one_of HT_.out (by kernel_rfl)) (by decide) (fun K hK => ?_)
      refine goes_ Try.func7 (by kernel_rfl) rfl #[.agg #[.bool a1_0, .int .i64 a1_1, .bool a1_2, .int .i64 a1_3, .slice A1_4 l1_4.length c1_4]] (by rfl) rfl rfl (by (try simp only [List.map_toArray, List.map_cons, List.map_nil]); first | done | rfl | (simp only [List.length_drop, List.length_take]; rfl)) ?_
      with_reducible refine (phaetonref04_Right.calls k a1_0 a1_1 a1_2 a1_3 _ _ l1_4 false _ ?side1 ?side2 A14.out).mono ?_
      (case side1 => repeat (first | exact (Kd.V_reads' HO1_4.out).2.2 | (with_reducible refine Kd.C_alloc ?_ _) | (with_reducible refine Kd.C_drewN ?_ _) | (with_reducible refine Kd.C_drew ?_)))
      (case side2 => exact (Kd.V_reads' HO1_4.out).2.1)
      rintro e w28 ⟨rfl, hb⟩
      refine ⟨_, rfl, ?_⟩
      have n0_ := Aside0.mk (Kd.V_below (by (with_reducible repeat (first | apply Kd.V_alloc | apply Kd.V_drewN | apply Kd.V_drew)); exact HO0_4.out) hb)
      have n1_ := Aside0.mk (Kd.V_below (by (with_reducible repeat (first | apply Kd.V_alloc | apply Kd.V_drewN | apply Kd.V_drew)); exact HO1_4.out) hb)
      have n2_ := Aside0.mk (blk_below (g := gb209) (o := .cells #[.bool a0_0, .int .i64 a0_1, .bool a0_2, .int .i64 a0_3, .slice A0_4 l0_4.length c0_4] 26 (0, 0)) (by (with_reducible repeat (first | refine blk_drewN ?_ _ | refine blk_drew ?_ | refine blk_alloc ?_ _)); exact BK209.out) hb)
      have n3_ := Aside0.mk (blk_below (g := gb210) (o := .cells #[.bool a1_0, .int .i64 a1_1, .bool a1_2, .int .i64 a1_3, .slice A1_4 l1_4.length c1_4] 26 (0, 0)) (by (with_reducible repeat (first | refine blk_drewN ?_ _ | refine blk_drew ?_ | refine blk_alloc ?_ _)); exact BK210.out) hb)
      have n4_ := Aside0.mk (below_step (by repeat (first | (with_reducible first | exact HB.out | apply below_alloc | apply pw_below_drewN | apply below_drew1 | refine below_set ?_ GE209.out | refine below_set ?_ GE210.out) | exact HB.out)) hb)
      clear HO0_4
      clear HO1_4
      clear BK209
      clear BK210
      clear HB
      have HO0_4 := n0_
      have HO1_4 := n1_
      have BK209 := n2_
      have BK210 := n3_
      have HB := n4_
      clear n0_ n1_ n2_ n3_ n4_
      (try clear hb)
      (try clear hb2)
      (try clear hk)
      (try clear hi)
      refine hK.out _ _ ⟨(blk_cell BK209.out 0).trans rfl, (blk_cell BK209.out 1).trans rfl, (blk_cell BK209.out 2).trans rfl, (blk_cell BK209.out 3).trans rfl, (blk_cell BK209.out 4).trans rfl, (blk_cell BK210.out 0).trans rfl, (blk_cell BK210.out 1).trans rfl, (blk_cell BK210.out 2).trans rfl, (blk_cell BK210.out 3).trans rfl, (blk_cell BK210.out 4).trans rfl⟩ (fun hHeld => ?_)
      clear hK K
      refine norm_ (a' := ?_) ?_ ?_
      rotate_left
      ·show Act.put _ (some 34) _ = _
       simp only [Act.put, HW.LA, HW.LZ, HW.LS, i64_w, i32_w]
       rfl
      refine pure_ (i := 18) (N := some 35) (v := ?_) (a' := ?_) (HW.tf 19 8) rfl rfl (any_of HT_.out (by kernel_rfl)) (fun _ _ _ h => h) (Or.inl ⟨by rfl, ?_⟩) ?_ ?_
      rotate_left
      ·intro w'
       go_simp
       with_reducible rfl
      rotate_left
      ·simp only [Act.put, HW.LA, HW.LZ, HW.LS, i64_w, i32_w]
       rfl
      refine pure_ (i := 19) (N := some 36) (v := ?_) (a' := ?_) (HW.tf 20 7) rfl rfl (any_of HT_.out (by kernel_rfl)) (fun _ _ _ h => h) (Or.inl ⟨by rfl, ?_⟩) ?_ ?_
      rotate_left
      ·intro w'
       go_simp
       with_reducible rfl
      rotate_left
      ·simp only [Act.put, HW.LA, HW.LZ, HW.LS, i64_w, i32_w]
       rfl
      refine pure_ (i := 20) (N := some 37) (v := ?_) (a' := ?_) (HW.tf 21 6) rfl rfl (any_of HT_.out (by kernel_rfl)) (fun _ _ _ h => h) (Or.inl ⟨by rfl, ?_⟩) ?_ ?_
      rotate_left
      ·intro w'
       go_simp
       with_reducible rfl
      rotate_left
      ·simp only [Act.put, HW.LA, HW.LZ, HW.LS, i64_w, i32_w]
       rfl
      refine pure_ (i := 21) (N := some 38) (v := undef) (a' := ?_) (HW.tf 22 5) rfl rfl (any_of HT_.out (by kernel_rfl)) (fun _ _ _ h => h) (Or.inr ⟨by rfl, rfl⟩) ?_ ?_
      rotate_left
      ·simp only [Act.put, HW.LA, HW.LZ, HW.LS, i64_w, i32_w]
       rfl
      refine pure_ (i := 22) (N := some 39) (v := undef) (a' := ?_) (HW.tf 23 4) rfl rfl (any_of HT_.out (by kernel_rfl)) (fun _ _ _ h => h) (Or.inr ⟨by rfl, rfl⟩) ?_ ?_
      rotate_left
      ·simp only [Act.put, HW.LA, HW.LZ, HW.LS, i64_w, i32_w]
       rfl
      refine pure_ (i := 23) (N := some 40) (v := undef) (a' := ?_) (HW.tf 24 3) rfl rfl (any_of HT_.out (by kernel_rfl)) (fun _ _ _ h => h) (Or.inr ⟨by rfl, rfl⟩) ?_ ?_
      rotate_left
      ·simp only [Act.put, HW.LA, HW.LZ, HW.LS, i64_w, i32_w]
       rfl
      refine pure_ (i := 24) (N := some 41) (v := undef) (a' := ?_) (HW.tf 25 2) rfl rfl (any_of HT_.out (by kernel_rfl)) (fun _ _ _ h => h) (Or.inr ⟨by rfl, rfl⟩) ?_ ?_
      rotate_left
      ·simp only [Act.put, HW.LA, HW.LZ, HW.LS, i64_w, i32_w]
       rfl
      refine pure_ (i := 25) (N := some 42) (v := undef) (a' := ?_) (HW.tf 26 1) rfl rfl (any_of HT_.out (by kernel_rfl)) (fun _ _ _ h => h) (Or.inr ⟨by rfl, rfl⟩) ?_ ?_
      rotate_left
      ·simp only [Act.put, HW.LA, HW.LZ, HW.LS, i64_w, i32_w]
       rfl
      refine pure_ (i := 26) (N := some 43) (v := ?_) (a' := ?_) (HW.tf 27 0) rfl rfl (any_of HT_.out (by kernel_rfl)) (fun _ _ _ h => h) (Or.inl ⟨by rfl, ?_⟩) ?_ ?_
      rotate_left
      ·intro w'
       go_simp
       with_reducible rfl
      rotate_left
      ·simp only [Act.put, HW.LA, HW.LZ, HW.LS, i64_w, i32_w]
       rfl
      refine done_ (done_of HT_.out (by kernel_rfl)) ?_
      try go_wp2
      go_meet
      case rel => exact ⟨_, (true), (by first | rfl | (simp; done) | (simp [*]; done)), H', ⟨by first | omega | exact Nat.le_refl _⟩, ⟨by (with_reducible repeat (first | apply Kd.V_alloc | apply Kd.V_drewN | apply Kd.V_drew)); exact Kd.V_mono HO0_4.out (fun _ hk => ⟨hk.1.1, ⟨hk.1.2, hk.2⟩⟩)⟩, ⟨by (with_reducible repeat (first | apply Kd.V_alloc | apply Kd.V_drewN | apply Kd.V_drew)); exact Kd.V_mono HO1_4.out (fun _ hk => ⟨hk.1.1, ⟨hk.1.2, hk.2⟩⟩)⟩, ⟨by (with_reducible repeat (first | refine blk_drewN ?_ _ | refine blk_drew ?_ | refine blk_alloc ?_ _)); exact BK209.out⟩, ⟨by (with_reducible repeat (first | refine blk_drewN ?_ _ | refine blk_drew ?_ | refine blk_alloc ?_ _)); exact BK210.out⟩, ⟨by repeat (first | (with_reducible first | exact HB.out | apply below_alloc | apply pw_below_drewN | apply below_drew1 | refine below_set ?_ GE209.out | refine below_set ?_ GE210.out) | exact HB.out)⟩⟩
    ·replace c13 := Bool.eq_false_iff.mpr c13
     subst c13
     have H1 : (phaetontop_TopLine.j0 k t211 true a0_0 a0_1 a0_2 a0_3 l0_4 a1_0 a1_1 a1_2 a1_3 l1_4) = some r := by rw [if_neg (show ¬ (false = true) by decide)] at H; exact H
     clear H
     have H := H1
     clear H1
     have H' := Aside0.mk H
     clear H
     try go_wp2
     have n0_ := Aside0.mk (Kd.V_drew HO0_4.out)
     have n1_ := Aside0.mk (Kd.V_drew HO1_4.out)
     have n2_ := Aside0.mk (blk_drew BK209.out)
     have n3_ := Aside0.mk (blk_drew BK210.out)
     have n4_ := Aside0.mk (below_drew1 HB.out)
     clear HO0_4
     clear HO1_4
     clear BK209
     clear BK210
     clear HB
     have HO0_4 := n0_
     have HO1_4 := n1_
     have BK209 := n2_
     have BK210 := n3_
     have HB := n4_
     clear n0_ n1_ n2_ n3_ n4_
     refine start_ (n := 27) (S := fun w' => w'.cell? ⟨gb209, 0, none⟩ = some (.bool a0_0) ∧ w'.cell? ⟨gb209, 1, none⟩ = some (.int .i64 a0_1) ∧ w'.cell? ⟨gb209, 2, none⟩ = some (.bool a0_2) ∧ w'.cell? ⟨gb209, 3, none⟩ = some (.int .i64 a0_3) ∧ w'.cell? ⟨gb209, 4, none⟩ = some (.slice A0_4 l0_4.length c0_4) ∧ w'.cell? ⟨gb210, 0, none⟩ = some (.bool a1_0) ∧ w'.cell? ⟨gb210, 1, none⟩ = some (.int .i64 a1_1) ∧ w'.cell? ⟨gb210, 2, none⟩ = some (.bool a1_2) ∧ w'.cell? ⟨gb210, 3, none⟩ = some (.int .i64 a1_3) ∧ w'.cell? ⟨gb210, 4, none⟩ = some (.slice A1_4 l1_4.length c1_4)) (ds := []) #[false, false, false, false, false, false, false, false, false, false, false, false, false, false, false, false, false, false, false, false, false, false, false, false, false, false, false] (by kernel_rfl) rfl rfl ⟨(blk_cell BK209.out 0).trans rfl, (blk_cell BK209.out 1).trans rfl, (blk_cell BK209.out 2).trans rfl, (blk_cell BK209.out 3).trans rfl, (blk_cell BK209.out 4).trans rfl, (blk_cell BK210.out 0).trans rfl, (blk_cell BK210.out 1).trans rfl, (blk_cell BK210.out 2).trans rfl, (blk_cell BK210.out 3).trans rfl, (blk_cell BK210.out 4).trans rfl⟩ (fun hHeld => ?_); refine with_tabW phaetontop_TopLine.tab2 phaetontop_TopLine.bits2 (fun HT_ HW_ => ?_)
     generalize w7.drew = w29 at HO0_4 HO1_4 BK209 BK210 HB hHeld ⊢
     refine pure_ (i := 0) (N := some 17) (v := ?_) (a' := ?_) (HW.tf 1 26) rfl rfl (any_of HT_.out (by kernel_rfl)) (fun _ _ _ h => h) (Or.inl ⟨by rfl, ?_⟩) ?_ ?_
     rotate_left
     ·intro w'
      go_simp
      with_reducible rfl
     rotate_left
     ·simp only [Act.put, HW.LA, HW.LZ, HW.LS, i64_w, i32_w]
      rfl
     refine take_ (i := 1) (N := some 18) (v := ?_) (a' := ?_) (HW.tf 2 25) rfl rfl (take_ofW HT_.out HW_.out (by kernel_rfl)) (fun _ _ _ h => h) (Or.inl ⟨by rfl, ?_⟩) hHeld ?_ ?_
     rotate_left
     ·rintro w' ⟨s0, s1, s2, s3, s4, s5, s6, s7, s8, s9⟩
      go_simp
      with_reducible rfl
     rotate_left
     ·simp only [Act.put, HW.LA, HW.LZ, HW.LS, i64_w, i32_w]
      rfl
     refine pure_ (i := 2) (N := some 19) (v := ?_) (a' := ?_) (HW.tf 3 24) rfl rfl (any_of HT_.out (by kernel_rfl)) (fun _ _ _ h => h) (Or.inl ⟨by rfl, ?_⟩) ?_ ?_
     rotate_left
     ·intro w'
      go_simp
      with_reducible rfl
     rotate_left
     ·simp only [Act.put, HW.LA, HW.LZ, HW.LS, i64_w, i32_w]
      rfl
     refine pure_ (i := 3) (N := some 20) (v := ?_) (a' := ?_) (HW.tf 4 23) rfl rfl (any_of HT_.out (by kernel_rfl)) (fun _ _ _ h => h) (Or.inl ⟨by rfl, ?_⟩) ?_ ?_
     rotate_left
     ·intro w'
      go_simp
      with_reducible rfl
     rotate_left
     ·simp only [Act.put, HW.LA, HW.LZ, HW.LS, i64_w, i32_w]
      rfl
     refine pure_ (i := 4) (N := some 21) (v := ?_) (a' := ?_) (HW.tf 5 22) rfl rfl (any_of HT_.out (by kernel_rfl)) (fun _ _ _ h => h) (Or.inl ⟨by rfl, ?_⟩) ?_ ?_
     rotate_left
     ·intro w'
      go_simp
      with_reducible rfl
     rotate_left
     ·simp only [Act.put, HW.LA, HW.LZ, HW.LS, i64_w, i32_w]
      rfl
     refine pure_ (i := 5) (N := some 22) (v := ?_) (a' := ?_) (HW.tf 6 21) rfl rfl (any_of HT_.out (by kernel_rfl)) (fun _ _ _ h => h) (Or.inl ⟨by rfl, ?_⟩) ?_ ?_
     rotate_left
     ·intro w'
      go_simp
      with_reducible rfl
     rotate_left
     ·simp only [Act.put, HW.LA, HW.LZ, HW.LS, i64_w, i32_w]
      rfl
     refine take_ (i := 6) (N := some 23) (v := ?_) (a' := ?_) (HW.tf 7 20) rfl rfl (take_ofW HT_.out HW_.out (by kernel_rfl)) (fun _ _ _ h => h) (Or.inl ⟨by rfl, ?_⟩) hHeld ?_ ?_
     rotate_left
     ·rintro w' ⟨s0, s1, s2, s3, s4, s5, s6, s7, s8, s9⟩
      go_simp
      with_reducible rfl
     rotate_left
     ·simp only [Act.put, HW.LA, HW.LZ, HW.LS, i64_w, i32_w]
      rfl
     refine pure_ (i := 7) (N := some 24) (v := ?_) (a' := ?_) (HW.tf 8 19) rfl rfl (any_of HT_.out (by kernel_rfl)) (fun _ _ _ h => h) (Or.inl ⟨by rfl, ?_⟩) ?_ ?_
     rotate_left
     ·intro w'
      go_simp
      with_reducible rfl
     rotate_left
     ·simp only [Act.put, HW.LA, HW.LZ, HW.LS, i64_w, i32_w]
      rfl
     refine pure_ (i := 8) (N := some 25) (v := ?_) (a' := ?_) (HW.tf 9 18) rfl rfl (any_of HT_.out (by kernel_rfl)) (fun _ _ _ h => h) (Or.inl ⟨by rfl, ?_⟩) ?_ ?_
     rotate_left
     ·intro w'
      go_simp
      with_reducible rfl
     rotate_left
     ·simp only [Act.put, HW.LA, HW.LZ, HW.LS, i64_w, i32_w]
      rfl
     refine pure_ (i := 9) (N := some 26) (v := ?_) (a' := ?_) (HW.tf 10 17) rfl rfl (any_of HT_.out (by kernel_rfl)) (fun _ _ _ h => h) (Or.inl ⟨by rfl, ?_⟩) ?_ ?_
     rotate_left
     ·intro w'
      go_simp
      with_reducible rfl
     rotate_left
     ·simp only [Act.put, HW.LA, HW.LZ, HW.LS, i64_w, i32_w]
      rfl
     refine pure_ (i := 10) (N := some 27) (v := ?_) (a' := ?_) (HW.tf 11 16) rfl rfl (any_of HT_.out (by kernel_rfl)) (fun _ _ _ h => h) (Or.inl ⟨by rfl, ?_⟩) ?_ ?_
     rotate_left
     ·intro w'
      go_simp
      with_reducible rfl
     rotate_left
     ·simp only [Act.put, HW.LA, HW.LZ, HW.LS, i64_w, i32_w]
      rfl
     refine take_ (i := 11) (N := some 28) (v := ?_) (a' := ?_) (HW.tf 12 15) rfl rfl (take_ofW HT_.out HW_.out (by kernel_rfl)) (fun _ _ _ h => h) (Or.inl ⟨by rfl, ?_⟩) hHeld ?_ ?_
     rotate_left
     ·rintro w' ⟨s0, s1, s2, s3, s4, s5, s6, s7, s8, s9⟩
      go_simp
      with_reducible rfl
     rotate_left
     ·simp only [Act.put, HW.LA, HW.LZ, HW.LS, i64_w, i32_w]
      rfl
     refine one_ (i := 12) (N := some 29) (HW.tf 13 14) rfl rfl (one_of HT_.out (by kernel_rfl)) (by decide) (fun K hK => ?_)
     refine goes_ Try.func7 (by kernel_rfl) rfl #[.agg #[.bool a0_0, .int .i64 a0_1, .bool a0_2, .int .i64 a0_3, .slice A0_4 l0_4.length c0_4]] (by rfl) rfl rfl (by (try simp only [List.map_toArray, List.map_cons, List.map_nil]); first | done | rfl | (simp only [List.length_drop, List.length_take]; rfl)) ?_
     with_reducible refine (phaetonref04_Right.calls k a0_0 a0_1 a0_2 a0_3 _ _ l0_4 false _ ?side1 ?side2 A12.out).mono ?_
     (case side1 => repeat (first | exact (Kd.V_reads' HO0_4.out).2.2 | (with_reducible refine Kd.C_alloc ?_ _) | (with_reducible refine Kd.C_drewN ?_ _) | (with_reducible refine Kd.C_drew ?_)))
     (case side2 => exact (Kd.V_reads' HO0_4.out).2.1)
     rintro e w30 ⟨rfl, hb⟩
     refine ⟨_, rfl, ?_⟩
     have n0_ := Aside0.mk (Kd.V_below (by (with_reducible repeat (first | apply Kd.V_alloc | apply Kd.V_drewN | apply Kd.V_drew)); exact HO0_4.out) hb)
     have n1_ := Aside0.mk (Kd.V_below (by (with_reducible repeat (first | apply Kd.V_alloc | apply Kd.V_drewN | apply Kd.V_drew)); exact HO1_4.out) hb)
     have n2_ := Aside0.mk (blk_below (g := gb209) (o := .cells #[.bool a0_0, .int .i64 a0_1, .bool a0_2, .int .i64 a0_3, .slice A0_4 l0_4.length c0_4] 26 (0, 0)) (by (with_reducible repeat (first | refine blk_drewN ?_ _ | refine blk_drew ?_ | refine blk_alloc ?_ _)); exact BK209.out) hb)
     have n3_ := Aside0.mk (blk_below (g := gb210) (o := .cells #[.bool a1_0, .int .i64 a1_1, .bool a1_2, .int .i64 a1_3, .slice A1_4 l1_4.length c1_4] 26 (0, 0)) (by (with_reducible repeat (first | refine blk_drewN ?_ _ | refine blk_drew ?_ | refine blk_alloc ?_ _)); exact BK210.out) hb)
     have n4_ := Aside0.mk (below_step (by repeat (first | (with_reducible first | exact HB.out | apply below_alloc | apply pw_below_drewN | apply below_drew1 | refine below_set ?_ GE209.out | refine below_set ?_ GE210.out) | exact HB.out)) hb)
     clear HO0_4
     clear HO1_4
     clear BK209
     clear BK210
     clear HB
     have HO0_4 := n0_
     have HO1_4 := n1_
     have BK209 := n2_
     have BK210 := n3_
     have HB := n4_
     clear n0_ n1_ n2_ n3_ n4_
     (try clear hb)
     (try clear hb2)
     (try clear hk)
     (try clear hi)
     refine hK.out _ _ ⟨(blk_cell BK209.out 0).trans rfl, (blk_cell BK209.out 1).trans rfl, (blk_cell BK209.out 2).trans rfl, (blk_cell BK209.out 3).trans rfl, (blk_cell BK209.out 4).trans rfl, (blk_cell BK210.out 0).trans rfl, (blk_cell BK210.out 1).trans rfl, (blk_cell BK210.out 2).trans rfl, (blk_cell BK210.out 3).trans rfl, (blk_cell BK210.out 4).trans rfl⟩ (fun hHeld => ?_)
     clear hK K
     refine norm_ (a' := ?_) ?_ ?_
     rotate_left
     ·show Act.put _ (some 29) _ = _
      simp only [Act.put, HW.LA, HW.LZ, HW.LS, i64_w, i32_w]
      rfl
     refine pure_ (i := 13) (N := some 30) (v := ?_) (a' := ?_) (HW.tf 14 13) rfl rfl (any_of HT_.out (by kernel_rfl)) (fun _ _ _ h => h) (Or.inl ⟨by rfl, ?_⟩) ?_ ?_
     rotate_left
     ·intro w'
      go_simp
      with_reducible rfl
     rotate_left
     ·simp only [Act.put, HW.LA, HW.LZ, HW.LS, i64_w, i32_w]
      rfl
     refine pure_ (i := 14) (N := some 31) (v := ?_) (a' := ?_) (HW.tf 15 12) rfl rfl (any_of HT_.out (by kernel_rfl)) (fun _ _ _ h => h) (Or.inl ⟨by rfl, ?_⟩) ?_ ?_
     rotate_left
     ·intro w'
      go_simp
      with_reducible rfl
     rotate_left
     ·simp only [Act.put, HW.LA, HW.LZ, HW.LS, i64_w, i32_w]
      rfl
     refine pure_ (i := 15) (N := some 32) (v := ?_) (a' := ?_) (HW.tf 16 11) rfl rfl (any_of HT_.out (by kernel_rfl)) (fun _ _ _ h => h) (Or.inl ⟨by rfl, ?_⟩) ?_ ?_
     rotate_left
     ·intro w'
      go_simp
      with_reducible rfl
     rotate_left
     ·simp only [Act.put, HW.LA, HW.LZ, HW.LS, i64_w, i32_w]
      rfl
     refine pure_ (i := 16) (N := some 33) (v := undef) (a' := ?_) (HW.tf 17 10) rfl rfl (any_of HT_.out (by kernel_rfl)) (fun _ _ _ h => h) (Or.inr ⟨by rfl, rfl⟩) ?_ ?_
     rotate_left
     ·simp only [Act.put, HW.LA, HW.LZ, HW.LS, i64_w, i32_w]
      rfl
     refine pure_ (i := 17) (N := some 34) (v := undef) (a' := ?_) (HW.tf 18 9) rfl rfl (any_of HT_.out (by kernel_rfl)) (fun _ _ _ h => h) (Or.inr ⟨by rfl, rfl⟩) ?_ ?_
     rotate_left
     ·simp only [Act.put, HW.LA, HW.LZ, HW.LS, i64_w, i32_w]
      rfl
     refine pure_ (i := 18) (N := some 35) (v := undef) (a' := ?_) (HW.tf 19 8) rfl rfl (any_of HT_.out (by kernel_rfl)) (fun _ _ _ h => h) (Or.inr ⟨by rfl, rfl⟩) ?_ ?_
     rotate_left
     ·simp only [Act.put, HW.LA, HW.LZ, HW.LS, i64_w, i32_w]
      rfl
     refine pure_ (i := 19) (N := some 36) (v := ?_) (a' := ?_) (HW.tf 20 7) rfl rfl (any_of HT_.out (by kernel_rfl)) (fun _ _ _ h => h) (Or.inl ⟨by rfl, ?_⟩) ?_ ?_
     rotate_left
     ·intro w'
      go_simp
      with_reducible rfl
     rotate_left
     ·simp only [Act.put, HW.LA, HW.LZ, HW.LS, i64_w, i32_w]
      rfl
     refine pure_ (i := 20) (N := some 37) (v := ?_) (a' := ?_) (HW.tf 21 6) rfl rfl (any_of HT_.out (by kernel_rfl)) (fun _ _ _ h => h) (Or.inl ⟨by rfl, ?_⟩) ?_ ?_
     rotate_left
     ·intro w'
      go_simp
      with_reducible rfl
     rotate_left
     ·simp only [Act.put, HW.LA, HW.LZ, HW.LS, i64_w, i32_w]
      rfl
     refine pure_ (i := 21) (N := some 38) (v := undef) (a' := ?_) (HW.tf 22 5) rfl rfl (any_of HT_.out (by kernel_rfl)) (fun _ _ _ h => h) (Or.inr ⟨by rfl, rfl⟩) ?_ ?_
     rotate_left
     ·simp only [Act.put, HW.LA, HW.LZ, HW.LS, i64_w, i32_w]
      rfl
     refine pure_ (i := 22) (N := some 39) (v := undef) (a' := ?_) (HW.tf 23 4) rfl rfl (any_of HT_.out (by kernel_rfl)) (fun _ _ _ h => h) (Or.inr ⟨by rfl, rfl⟩) ?_ ?_
     rotate_left
     ·simp only [Act.put, HW.LA, HW.LZ, HW.LS, i64_w, i32_w]
      rfl
     refine pure_ (i := 23) (N := some 40) (v := undef) (a' := ?_) (HW.tf 24 3) rfl rfl (any_of HT_.out (by kernel_rfl)) (fun _ _ _ h => h) (Or.inr ⟨by rfl, rfl⟩) ?_ ?_
     rotate_left
     ·simp only [Act.put, HW.LA, HW.LZ, HW.LS, i64_w, i32_w]
      rfl
     refine pure_ (i := 24) (N := some 41) (v := undef) (a' := ?_) (HW.tf 25 2) rfl rfl (any_of HT_.out (by kernel_rfl)) (fun _ _ _ h => h) (Or.inr ⟨by rfl, rfl⟩) ?_ ?_
     rotate_left
     ·simp only [Act.put, HW.LA, HW.LZ, HW.LS, i64_w, i32_w]
      rfl
     refine pure_ (i := 25) (N := some 42) (v := undef) (a' := ?_) (HW.tf 26 1) rfl rfl (any_of HT_.out (by kernel_rfl)) (fun _ _ _ h => h) (Or.inr ⟨by rfl, rfl⟩) ?_ ?_
     rotate_left
     ·simp only [Act.put, HW.LA, HW.LZ, HW.LS, i64_w, i32_w]
      rfl
     refine pure_ (i := 26) (N := some 43) (v := ?_) (a' := ?_) (HW.tf 27 0) rfl rfl (any_of HT_.out (by kernel_rfl)) (fun _ _ _ h => h) (Or.inl ⟨by rfl, ?_⟩) ?_ ?_
     rotate_left
     ·intro w'
      go_simp
      with_reducible rfl
     rotate_left
     ·simp only [Act.put, HW.LA, HW.LZ, HW.LS, i64_w, i32_w]
      rfl
     refine done_ (done_of HT_.out (by kernel_rfl)) ?_
     try go_wp2
     go_meet
     case rel => exact ⟨_, (true), (by first | rfl | (simp; done) | (simp [*]; done)), H', ⟨by first | omega | exact Nat.le_refl _⟩, ⟨by (with_reducible repeat (first | apply Kd.V_alloc | apply Kd.V_drewN | apply Kd.V_drew)); exact Kd.V_mono HO0_4.out (fun _ hk => ⟨hk.1.1, ⟨hk.1.2, hk.2⟩⟩)⟩, ⟨by (with_reducible repeat (first | apply Kd.V_alloc | apply Kd.V_drewN | apply Kd.V_drew)); exact Kd.V_mono HO1_4.out (fun _ hk => ⟨hk.1.1, ⟨hk.1.2, hk.2⟩⟩)⟩, ⟨by (with_reducible repeat (first | refine blk_drewN ?_ _ | refine blk_drew ?_ | refine blk_alloc ?_ _)); exact BK209.out⟩, ⟨by (with_reducible repeat (first | refine blk_drewN ?_ _ | refine blk_drew ?_ | refine blk_alloc ?_ _)); exact BK210.out⟩, ⟨by repeat (first | (with_reducible first | exact HB.out | apply below_alloc | apply pw_below_drewN | apply below_drew1 | refine below_set ?_ GE209.out | refine below_set ?_ GE210.out) | exact HB.out)⟩⟩
 case rest => as_aux_lemma =>
  clear HC4
  try clear c1
  try clear p2
  try clear c7
  try clear c9
  try clear c11
  try clear c13
  try clear c15
  obtain ⟨kq, x43_3, rfl, HA, HJ3, HO_210004, HO_211004, BK209, BK210, HB⟩ := hcut
  cases kq with
  | zero => exact absurd HA.out (by simp [phaetontop_TopLine.j0])
  | succ kj3 =>
   have H := HA.out
   clear HA
   simp only [phaetontop_TopLine.j0] at H
   by_cases c31 : x43_3 = true
   ·subst c31
    have H1 : (if t211 = true then (some true) else (none)) = some r := by rw [if_pos rfl] at H; exact H
    clear H
    have H := H1
    clear H1
    by_cases c32 : t211 = true
    ·subst c32
     have H1 : (some true) = some r := by rw [if_pos rfl] at H; exact H
     clear H
     have H := H1
     clear H1
     obtain rfl := Option.some.inj H
     go_wp2
     go_ret
     exact ⟨by first | rfl | (simp [errW_none, errW_some] <;> rfl) | (simp [*, errW_none, errW_some] <;> rfl), by repeat (first | (with_reducible first | exact HB.out | apply below_alloc | apply pw_below_drewN | apply below_drew1 | refine below_set ?_ GE209.out | refine below_set ?_ GE210.out) | exact HB.out)⟩
    ·replace c32 := Bool.eq_false_iff.mpr c32
     subst c32
     have H1 : (none) = some r := by rw [if_neg (show ¬ (false = true) by decide)] at H; exact H
     clear H
     have H := H1
     clear H1
     exact absurd H (by simp)
   ·replace c31 := Bool.eq_false_iff.mpr c31
    subst c31
    have H1 : ((some (([(⟨a0_0, a0_1, a0_2, a0_3, l0_4⟩ : S26), (⟨a1_0, a1_1, a1_2, a1_3, l1_4⟩ : S26)] : List (S26)) : List (S26))).bind fun y221 => ((arb_Win.f y221).bind fun t224 => ((arb_Lost.f y221).bind fun t225 => (if t224 = 0 then (if (t225.length : Int) = 2 then (if 0 ≤ t224 then (if t224 < (t225.length : Int) then (phaetontop_TopLine.j1 kj3 t211 y221 t224 t225 ((rd t225 t224) != (-1))) else (none)) else (none)) else (phaetontop_TopLine.j1 kj3 t211 y221 t224 t225 true)) else (if t224 = 1 then (if (t225.length : Int) = 2 then (if 0 ≤ t224 then (if t224 < (t225.length : Int) then (phaetontop_TopLine.j1 kj3 t211 y221 t224 t225 ((rd t225 t224) != (-1))) else (none)) else (none)) else (phaetontop_TopLine.j1 kj3 t211 y221 t224 t225 true)) else (phaetontop_TopLine.j1 kj3 t211 y221 t224 t225 true)))))) = some r := by rw [if_neg (show ¬ (false = true) by decide)] at H; exact H
    clear H
    have H := H1
    clear H1
    obtain ⟨y221, hy221⟩ : ∃ y_ : List (S26), y_ = (([(⟨a0_0, a0_1, a0_2, a0_3, l0_4⟩ : S26), (⟨a1_0, a1_1, a1_2, a1_3, l1_4⟩ : S26)] : List (S26))) := ⟨_, rfl⟩
    replace H : ((arb_Win.f y221).bind fun t224 => ((arb_Lost.f y221).bind fun t225 => (if t224 = 0 then (if (t225.length : Int) = 2 then (if 0 ≤ t224 then (if t224 < (t225.length : Int) then (phaetontop_TopLine.j1 kj3 t211 y221 t224 t225 ((rd t225 t224) != (-1))) else (none)) else (none)) else (phaetontop_TopLine.j1 kj3 t211 y221 t224 t225 true)) else (if t224 = 1 then (if (t225.length : Int) = 2 then (if 0 ≤ t224 then (if t224 < (t225.length : Int) then (phaetontop_TopLine.j1 kj3 t211 y221 t224 t225 ((rd t225 t224) != (-1))) else (none)) else (none)) else (phaetontop_TopLine.j1 kj3 t211 y221 t224 t225 true)) else (phaetontop_TopLine.j1 kj3 t211 y221 t224 t225 true))))) = some r := by first | (rw [hy221]; with_reducible exact H) | (have H2_ := (Option.bind_some _ _).symm.trans H; rw [hy221]; with_reducible exact H2_) | (have H2_ := (Option.bind_some _ _).symm.trans H; with_reducible exact H2_) | with_reducible exact H | (rw [hy221]; exact H) | exact H
    have Ny221 := Aside0.mk hy221
    clear hy221
    replace H := Option.bind_eq_some_iff.mp H
    obtain ⟨t224, A330, H⟩ := H
    replace H : ((arb_Lost.f y221).bind fun t225 => (if t224 = 0 then (if (t225.length : Int) = 2 then (if 0 ≤ t224 then (if t224 < (t225.length : Int) then (phaetontop_TopLine.j1 kj3 t211 y221 t224 t225 ((rd t225 t224) != (-1))) else (none)) else (none)) else (phaetontop_TopLine.j1 kj3 t211 y221 t224 t225 true)) else (if t224 = 1 then (if (t225.length : Int) = 2 then (if 0 ≤ t224 then (if t224 < (t225.length : Int) then (phaetontop_TopLine.j1 kj3 t211 y221 t224 t225 ((rd t225 t224) != (-1))) else (none)) else (none)) else (phaetontop_TopLine.j1 kj3 t211 y221 t224 t225 true)) else (phaetontop_TopLine.j1 kj3 t211 y221 t224 t225 true)))) = some r := H
    have A33 := Aside0.mk A330
    clear A330
    replace H := Option.bind_eq_some_iff.mp H
    obtain ⟨t225, A340, H⟩ := H
    replace H : (if t224 = 0 then (if (t225.length : Int) = 2 then (if 0 ≤ t224 then (if t224 < (t225.length : Int) then (phaetontop_TopLine.j1 kj3 t211 y221 t224 t225 ((rd t225 t224) != (-1))) else (none)) else (none)) else (phaetontop_TopLine.j1 kj3 t211 y221 t224 t225 true)) else (if t224 = 1 then (if (t225.length : Int) = 2 then (if 0 ≤ t224 then (if t224 < (t225.length : Int) then (phaetontop_TopLine.j1 kj3 t211 y221 t224 t225 ((rd t225 t224) != (-1))) else (none)) else (none)) else (phaetontop_TopLine.j1 kj3 t211 y221 t224 t225 true)) else (phaetontop_TopLine.j1 kj3 t211 y221 t224 t225 true))) = some r := H
    have A34 := Aside0.mk A340
    clear A340
    have HC35 := Aside0.mk H
    clear H
    have hnb36 := NB209_210.out
    have hnc36 := NB210_209.out
    have hcz37_0 : wc.cell? ⟨gb209, 0, none⟩ = some (.bool a0_0) := (blk_cell BK209.out 0).trans rfl
    have hcz37_1 : wc.cell? ⟨gb209, 1, none⟩ = some (.int .i64 a0_1) := (blk_cell BK209.out 1).trans rfl
    have hcz37_2 : wc.cell? ⟨gb209, 2, none⟩ = some (.bool a0_2) := (blk_cell BK209.out 2).trans rfl
    have hcz37_3 : wc.cell? ⟨gb209, 3, none⟩ = some (.int .i64 a0_3) := (blk_cell BK209.out 3).trans rfl
    have hcz37_4 : wc.cell? ⟨gb209, 4, none⟩ = some (.slice A0_4 l0_4.length c0_4) := (blk_cell BK209.out 4).trans rfl
    have hfz37_0 := blk_frozen BK209.out 0
    have hfz37_1 := blk_frozen BK209.out 1
    have hfz37_2 := blk_frozen BK209.out 2
    have hfz37_3 := blk_frozen BK209.out 3
    have hfz37_4 := blk_frozen BK209.out 4
    have hcz38_0 : wc.cell? ⟨gb210, 0, none⟩ = some (.bool a1_0) := (blk_cell BK210.out 0).trans rfl
    have hcz38_1 : wc.cell? ⟨gb210, 1, none⟩ = some (.int .i64 a1_1) := (blk_cell BK210.out 1).trans rfl
    have hcz38_2 : wc.cell? ⟨gb210, 2, none⟩ = some (.bool a1_2) := (blk_cell BK210.out 2).trans rfl
    have hcz38_3 : wc.cell? ⟨gb210, 3, none⟩ = some (.int .i64 a1_3) := (blk_cell BK210.out 3).trans rfl
    have hcz38_4 : wc.cell? ⟨gb210, 4, none⟩ = some (.slice A1_4 l1_4.length c1_4) := (blk_cell BK210.out 4).trans rfl
    have hfz38_0 := blk_frozen BK210.out 0
    have hfz38_1 := blk_frozen BK210.out 1
    have hfz38_2 := blk_frozen BK210.out 2
    have hfz38_3 := blk_frozen BK210.out 3
    have hfz38_4 := blk_frozen BK210.out 4
    go_upto_region 7 with (first | ((with_reducible refine gate_dst (N := 47) rfl ?_); (try (refine gate_guard (by rfl) ?_; dsimp only)); refine Kd.N_lit k26 _ 26 ?hg (N' := 47) ?hd (xs := ([(⟨a0_0, a0_1, a0_2, a0_3, l0_4⟩ : S26), (⟨a1_0, a1_1, a1_2, a1_3, l1_4⟩ : S26)] : List (S26))) (inner := [.bool a0_0, .int .i64 a0_1, .bool a0_2, .int .i64 a0_3, .slice A0_4 l0_4.length c0_4, .bool a1_0, .int .i64 a1_1, .bool a1_2, .int .i64 a1_3, .slice A1_4 l1_4.length c1_4]) (ok := (fun k_ => ((P0_4_ k_ ∨ P1_4_ k_) ∨ w.heap.size ≤ k_) ∧ k_ ≠ gb209 ∧ k_ ≠ gb210)) (okp := (fun k_ => ((P0_4_ k_ ∨ P1_4_ k_) ∨ w.heap.size ≤ k_) ∧ k_ ≠ gb209 ∧ k_ ≠ gb210)) ?hr ?hp (fun _ hk => hk) ((show ∀ k_, wc.heap.size ≤ k_ → (fun k_ => ((P0_4_ k_ ∨ P1_4_ k_) ∨ w.heap.size ≤ k_) ∧ k_ ≠ gb209 ∧ k_ ≠ gb210) k_ from fun k_ hk => ⟨(.inr (Nat.le_trans (below_size (by repeat (first | (with_reducible first | exact HB.out | apply below_alloc | apply pw_below_drewN | apply below_drew1 | refine below_set ?_ GE209.out | refine below_set ?_ GE210.out) | exact HB.out))) hk)), Kd.freshB (g := gb209) (o := .cells #[.bool a0_0, .int .i64 a0_1, .bool a0_2, .int .i64 a0_3, .slice A0_4 l0_4.length c0_4] 26 (0, 0)) (by (with_reducible repeat (first | refine blk_drewN ?_ _ | refine blk_drew ?_ | refine blk_alloc ?_ _)); exact BK209.out) k_ hk, Kd.freshB (g := gb210) (o := .cells #[.bool a1_0, .int .i64 a1_1, .bool a1_2, .int .i64 a1_3, .slice A1_4 l1_4.length c1_4] 26 (0, 0)) (by (with_reducible repeat (first | refine blk_drewN ?_ _ | refine blk_drew ?_ | refine blk_alloc ?_ _)); exact BK210.out) k_ hk⟩) _ (Nat.le_refl _)) (Below.refl _ _) (Nat.le_refl _) (by simp) ?_; (case hd => rfl); (case hg => rfl); (case hr => exact lit_run _ rfl rfl rfl); (case hp => exact (Reps.c5 (show Kd.FK k26 _ _ (⟨a0_0, a0_1, a0_2, a0_3, l0_4⟩ : S26) [.bool a0_0, .int .i64 a0_1, .bool a0_2, .int .i64 a0_3, .slice A0_4 l0_4.length c0_4] from (k26_mkF _ _ (⟨a0_0, a0_1, a0_2, a0_3, l0_4⟩ : S26) (Kd.V_reads' (Kd.V_mono (ok' := (fun k_ => ((P0_4_ k_ ∨ P1_4_ k_) ∨ w.heap.size ≤ k_) ∧ k_ ≠ gb209 ∧ k_ ≠ gb210)) (HO_210004.out) (fun k_ hk => ⟨hk.1, ⟨hk.2.1, hk.2.2⟩⟩))).2.1 (Kd.V_F (Kd.V_mono (ok' := (fun k_ => ((P0_4_ k_ ∨ P1_4_ k_) ∨ w.heap.size ≤ k_) ∧ k_ ≠ gb209 ∧ k_ ≠ gb210)) (HO_210004.out) (fun k_ hk => ⟨hk.1, ⟨hk.2.1, hk.2.2⟩⟩))))) (Reps.c5 (show Kd.FK k26 _ _ (⟨a1_0, a1_1, a1_2, a1_3, l1_4⟩ : S26) [.bool a1_0, .int .i64 a1_1, .bool a1_2, .int .i64 a1_3, .slice A1_4 l1_4.length c1_4] from (k26_mkF _ _ (⟨a1_0, a1_1, a1_2, a1_3, l1_4⟩ : S26) (Kd.V_reads' (Kd.V_mono (ok' := (fun k_ => ((P0_4_ k_ ∨ P1_4_ k_) ∨ w.heap.size ≤ k_) ∧ k_ ≠ gb209 ∧ k_ ≠ gb210)) (HO_211004.out) (fun k_ hk => ⟨hk.1, ⟨hk.2.1, hk.2.2⟩⟩))).2.1 (Kd.V_F (Kd.V_mono (ok' := (fun k_ => ((P0_4_ k_ ∨ P1_4_ k_) ∨ w.heap.size ≤ k_) ∧ k_ ≠ gb209 ∧ k_ ≠ gb210)) (HO_211004.out) (fun k_ hk => ⟨hk.1, ⟨hk.2.1, hk.2.2⟩⟩))))) (Reps.none _ _)))); intro v222 w39 ho40 hb hg_ hnew_; clear hg_ hnew_; (first | rw [← Ny221.out] at ho40 | (simp only [Int.reduceToNat] at ho40; rw [← Ny221.out] at ho40)); have n0_ := Aside0.mk (Kd.V_elder' (by (with_reducible repeat (first | apply Kd.V_alloc | apply Kd.V_drewN | apply Kd.V_drew)); exact HO_210004.out) (Kd.N_base ho40) hb); have n1_ := Aside0.mk (Kd.V_elder' (by (with_reducible repeat (first | apply Kd.V_alloc | apply Kd.V_drewN | apply Kd.V_drew)); exact HO_211004.out) (Kd.N_base ho40) hb); have n2_ := Aside0.mk (Kd.N_lower ho40 (below_size (by repeat (first | (with_reducible first | exact HB.out | apply below_alloc | apply pw_below_drewN | apply below_drew1 | refine below_set ?_ GE209.out | refine below_set ?_ GE210.out) | exact HB.out)))); have n3_ := Aside0.mk (blk_below (g := gb209) (o := .cells #[.bool a0_0, .int .i64 a0_1, .bool a0_2, .int .i64 a0_3, .slice A0_4 l0_4.length c0_4] 26 (0, 0)) (by (with_reducible repeat (first | refine blk_drewN ?_ _ | refine blk_drew ?_ | refine blk_alloc ?_ _)); exact BK209.out) hb); have n4_ := Aside0.mk (blk_below (g := gb210) (o := .cells #[.bool a1_0, .int .i64 a1_1, .bool a1_2, .int .i64 a1_3, .slice A1_4 l1_4.length c1_4] 26 (0, 0)) (by (with_reducible repeat (first | refine blk_drewN ?_ _ | refine blk_drew ?_ | refine blk_alloc ?_ _)); exact BK210.out) hb); have n5_ := Aside0.mk (below_step (by repeat (first | (with_reducible first | exact HB.out | apply below_alloc | apply pw_below_drewN | apply below_drew1 | refine below_set ?_ GE209.out | refine below_set ?_ GE210.out) | exact HB.out)) hb); clear HO_210004; clear HO_211004; clear BK209; clear BK210; clear HB; have HO_210004 := n0_; have HO_211004 := n1_; have HO223 := n2_; have BK209 := n3_; have BK210 := n4_; have HB := n5_; clear n0_ n1_ n2_ n3_ n4_ n5_; clear hb ho40; obtain ⟨Ao41, co41, eo41⟩ := Kd.N_slice HO223.out; subst eo41) | ((with_reducible refine gate_callee (f := 8) rfl ?_); refine goesL_ (some 49) rfl rfl Try.func8 (by kernel_rfl) rfl #[.slice Ao41 y221.length co41] rfl (by (try simp only [List.map_toArray, List.map_cons, List.map_nil]); first | done | rfl | (simp only [List.length_drop, List.length_take]; rfl)) ?_; (with_reducible refine (arb_Win.calls _ _ y221 t224 _ ?side1 ?side2 A33.out).mono ?_); (case side1 => repeat (first | exact (Kd.N_reads' HO223.out).2.2 | (with_reducible refine Kd.C_alloc ?_ _) | (with_reducible refine Kd.C_drewN ?_ _) | (with_reducible refine Kd.C_drew ?_))); (case side2 => exact (Kd.N_reads' HO223.out).2.1); rintro e w42 ⟨rfl, hb⟩; refine ⟨_, rfl, ?_⟩; have n0_ := Aside0.mk (Kd.V_below (by (with_reducible repeat (first | apply Kd.V_alloc | apply Kd.V_drewN | apply Kd.V_drew)); exact HO_210004.out) hb); have n1_ := Aside0.mk (Kd.V_below (by (with_reducible repeat (first | apply Kd.V_alloc | apply Kd.V_drewN | apply Kd.V_drew)); exact HO_211004.out) hb); have n2_ := Aside0.mk (Kd.N_below (by (with_reducible repeat (first | apply Kd.N_alloc | apply Kd.N_drewN | apply Kd.N_drew)); exact HO223.out) hb); have n3_ := Aside0.mk (blk_below (g := gb209) (o := .cells #[.bool a0_0, .int .i64 a0_1, .bool a0_2, .int .i64 a0_3, .slice A0_4 l0_4.length c0_4] 26 (0, 0)) (by (with_reducible repeat (first | refine blk_drewN ?_ _ | refine blk_drew ?_ | refine blk_alloc ?_ _)); exact BK209.out) hb); have n4_ := Aside0.mk (blk_below (g := gb210) (o := .cells #[.bool a1_0, .int .i64 a1_1, .bool a1_2, .int .i64 a1_3, .slice A1_4 l1_4.length c1_4] 26 (0, 0)) (by (with_reducible repeat (first | refine blk_drewN ?_ _ | refine blk_drew ?_ | refine blk_alloc ?_ _)); exact BK210.out) hb); have n5_ := Aside0.mk (below_step (by repeat (first | (with_reducible first | exact HB.out | apply below_alloc | apply pw_below_drewN | apply below_drew1 | refine below_set ?_ GE209.out | refine below_set ?_ GE210.out) | exact HB.out)) hb); clear HO_210004; clear HO_211004; clear HO223; clear BK209; clear BK210; clear HB; have HO_210004 := n0_; have HO_211004 := n1_; have HO223 := n2_; have BK209 := n3_; have BK210 := n4_; have HB := n5_; clear n0_ n1_ n2_ n3_ n4_ n5_; (try clear hb); (try clear hb2); (try clear hk); (try clear hi)) | ((with_reducible refine gate_callee (f := 12) rfl ?_); refine goesL_ (some 51) rfl rfl Try.func12 (by kernel_rfl) rfl #[.slice Ao41 y221.length co41] rfl (by (try simp only [List.map_toArray, List.map_cons, List.map_nil]); first | done | rfl | (simp only [List.length_drop, List.length_take]; rfl)) ?_; (with_reducible refine (arb_Lost.calls _ _ y221 t225 _ ?side1 ?side2 A34.out).mono ?_); (case side1 => repeat (first | exact (Kd.N_reads' HO223.out).2.2 | (with_reducible refine Kd.C_alloc ?_ _) | (with_reducible refine Kd.C_drewN ?_ _) | (with_reducible refine Kd.C_drew ?_))); (case side2 => exact (Kd.N_reads' HO223.out).2.1); rintro e w43 ⟨v226, rfl, ho0, hb⟩; refine ⟨_, rfl, ?_⟩; have n0_ := Aside0.mk (Kd.V_elder' (by (with_reducible repeat (first | apply Kd.V_alloc | apply Kd.V_drewN | apply Kd.V_drew)); exact HO_210004.out) (Kd.R_base ho0) hb); have n1_ := Aside0.mk (Kd.V_elder' (by (with_reducible repeat (first | apply Kd.V_alloc | apply Kd.V_drewN | apply Kd.V_drew)); exact HO_211004.out) (Kd.R_base ho0) hb); have n2_ := Aside0.mk (Kd.N_elder' (by (with_reducible repeat (first | apply Kd.N_alloc | apply Kd.N_drewN | apply Kd.N_drew)); exact HO223.out) (Kd.R_base ho0) hb); have n3_ := Aside0.mk (Kd.R_lower (Kd.R_newM (M := fun k_ => (w.heap.size ≤ k_)) ho0 (below_size (by repeat (first | (with_reducible first | exact HB.out | apply below_alloc | apply pw_below_drewN | apply below_drew1 | refine below_set ?_ GE209.out | refine below_set ?_ GE210.out) | exact HB.out))) (fun k_ h_ => h_)) (below_size (by repeat (first | (with_reducible first | exact HB.out | apply below_alloc | apply pw_below_drewN | apply below_drew1 | refine below_set ?_ GE209.out | refine below_set ?_ GE210.out) | exact HB.out)))); have n4_ := Aside0.mk (blk_below (g := gb209) (o := .cells #[.bool a0_0, .int .i64 a0_1, .bool a0_2, .int .i64 a0_3, .slice A0_4 l0_4.length c0_4] 26 (0, 0)) (by (with_reducible repeat (first | refine blk_drewN ?_ _ | refine blk_drew ?_ | refine blk_alloc ?_ _)); exact BK209.out) hb); have n5_ := Aside0.mk (blk_below (g := gb210) (o := .cells #[.bool a1_0, .int .i64 a1_1, .bool a1_2, .int .i64 a1_3, .slice A1_4 l1_4.length c1_4] 26 (0, 0)) (by (with_reducible repeat (first | refine blk_drewN ?_ _ | refine blk_drew ?_ | refine blk_alloc ?_ _)); exact BK210.out) hb); have n6_ := Aside0.mk (below_step (by repeat (first | (with_reducible first | exact HB.out | apply below_alloc | apply pw_below_drewN | apply below_drew1 | refine below_set ?_ GE209.out | refine below_set ?_ GE210.out) | exact HB.out)) hb); clear HO_210004; clear HO_211004; clear HO223; clear BK209; clear BK210; clear HB; have HO_210004 := n0_; have HO_211004 := n1_; have HO223 := n2_; have HO227 := n3_; have BK209 := n4_; have BK210 := n5_; have HB := n6_; clear n0_ n1_ n2_ n3_ n4_ n5_ n6_; (try clear hb); (try clear hb2); (try clear hk); (try clear hi); (try clear ho0)))
    (try simp only [Act.put, List.setIfInBounds_toArray, List.set_cons_zero, List.set_cons_succ])
    go_cut [69] (fun v69 wc => ∃ (kq : Nat) (x69_34 : Bool), v69 = .bool x69_34 ∧ Aside0 (phaetontop_TopLine.j1 kq t211 y221 t224 t225 x69_34 = some r) ∧ Aside0 (kq ≤ kj3) ∧ Aside0 (Kd.N k26 26 wc w.heap.size (fun k_ => ((P0_4_ k_ ∨ P1_4_ k_) ∨ w.heap.size ≤ k_) ∧ some k_ ≠ (v226 : Value).ownBlock ∧ k_ ≠ gb209 ∧ k_ ≠ gb210) (.slice Ao41 y221.length co41) y221) ∧ Aside0 (Kd.R (Kd.int .i64) 3 wc w.heap.size (fun k_ => (w.heap.size ≤ k_)) v226 t225) ∧ Aside0 (Kd.V (Kd.int .u8) 5 wc w.heap.size (fun k_ => ((P0_4_ k_ ∨ P1_4_ k_) ∨ w.heap.size ≤ k_) ∧ some k_ ≠ ((.slice Ao41 y221.length co41) : Value).ownBlock ∧ some k_ ≠ (v226 : Value).ownBlock ∧ k_ ≠ gb209 ∧ k_ ≠ gb210) (.slice A0_4 l0_4.length c0_4) l0_4) ∧ Aside0 (Kd.V (Kd.int .u8) 5 wc w.heap.size (fun k_ => ((P0_4_ k_ ∨ P1_4_ k_) ∨ w.heap.size ≤ k_) ∧ some k_ ≠ ((.slice Ao41 y221.length co41) : Value).ownBlock ∧ some k_ ≠ (v226 : Value).ownBlock ∧ k_ ≠ gb209 ∧ k_ ≠ gb210) (.slice A1_4 l1_4.length c1_4) l1_4) ∧ Aside0 (wc.heap[gb209]? = some (.cells #[.bool a0_0, .int .i64 a0_1, .bool a0_2, .int .i64 a0_3, (.slice A0_4 l0_4.length c0_4)] 26 (0, 0))) ∧ Aside0 (wc.heap[gb210]? = some (.cells #[.bool a1_0, .int .i64 a1_1, .bool a1_2, .int .i64 a1_3, (.slice A1_4 l1_4.length c1_4)] 26 (0, 0))) ∧ Aside0 (Below w.heap.size w wc))
    case first => as_aux_lemma =>
     have H := HC35.out
     clear HC35
     by_cases c44 : t224 = 0
     ·rw [if_pos c44] at H
      have c44b0 : (t224 == 0) = true := beq_iff_eq.mpr c44
      have c44b1 : (t224 != 0) = false := bne_eq_false_iff_eq.mpr c44
      clear c44
      (first | rw [c44b0] | (simp only [i64_w, i32_w]; rw [c44b0]) | skip)
      by_cases c45 : (t225.length : Int) = 2
      ·rw [if_pos c45] at H
       have c45b0 : ((t225.length : Int) == 2) = true := beq_iff_eq.mpr c45
       have c45b1 : ((t225.length : Int) != 2) = false := bne_eq_false_iff_eq.mpr c45
       clear c45
       by_cases c46 : 0 ≤ t224
       rotate_left
       ·rw [if_neg c46] at H
        exact absurd H (by simp)
       rw [if_pos c46] at H
       have c46b0 : decide (0 ≤ t224) = true := decide_eq_true c46
       clear c46
       by_cases c47 : t224 < (t225.length : Int)
       rotate_left
       ·rw [if_neg c47] at H
        exact absurd H (by simp)
       rw [if_pos c47] at H
       have c47b0 : decide (t224 < (t225.length : Int)) = true := decide_eq_true c47
       clear c47
       have H' := Aside0.mk H
       clear H
       obtain ⟨Ao48, co48, eo48⟩ := Kd.R_slice HO227.out
       subst eo48
       have p228 : 0 ≤ (t224 : Int) := of_decide_eq_true (by first | (with_reducible assumption) | assumption)
       have q228 : t224 < (t225.length : Int) := of_decide_eq_true (by first | (with_reducible assumption) | assumption)
       obtain ⟨ad228, e228, hx228_0⟩ := Kd.at_int (Kd.R_reads' HO227.out).2.2 t224 p228 q228
       cases e228
       replace p228 := eq_true p228
       replace q228 := eq_true q228
       go_wp2
       go_meet
       case rel => exact ⟨_, (((rd t225 t224) != (-1))), (by first | rfl | (simp; done) | (simp [*]; done)), H', ⟨by have := HJ3.out; first | omega | exact Nat.le_refl _⟩, ⟨by (with_reducible repeat (first | apply Kd.N_alloc | apply Kd.N_drewN | apply Kd.N_drew)); exact Kd.N_mono HO223.out (fun _ hk => ⟨hk.1.1, ⟨hk.2, ⟨hk.1.2.1, hk.1.2.2⟩⟩⟩)⟩, ⟨by (with_reducible repeat (first | apply Kd.R_alloc | apply Kd.R_drewN | apply Kd.R_drew)); exact Kd.R_mono HO227.out (fun _ hk => hk.1)⟩, ⟨by (with_reducible repeat (first | apply Kd.V_alloc | apply Kd.V_drewN | apply Kd.V_drew)); exact Kd.V_mono HO_210004.out (fun _ hk => ⟨hk.1.1.1, ⟨hk.1.2, ⟨hk.2, ⟨hk.1.1.2.1, hk.1.1.2.2⟩⟩⟩⟩)⟩, ⟨by (with_reducible repeat (first | apply Kd.V_alloc | apply Kd.V_drewN | apply Kd.V_drew)); exact Kd.V_mono HO_211004.out (fun _ hk => ⟨hk.1.1.1, ⟨hk.1.2, ⟨hk.2, ⟨hk.1.1.2.1, hk.1.1.2.2⟩⟩⟩⟩)⟩, ⟨by (with_reducible repeat (first | refine blk_drewN ?_ _ | refine blk_drew ?_ | refine blk_alloc ?_ _)); exact BK209.out⟩, ⟨by (with_reducible repeat (first | refine blk_drewN ?_ _ | refine blk_drew ?_ | refine blk_alloc ?_ _)); exact BK210.out⟩, ⟨by repeat (first | (with_reducible first | exact HB.out | apply below_alloc | apply pw_below_drewN | apply below_drew1 | refine below_set ?_ GE209.out | refine below_set ?_ GE210.out) | exact HB.out)⟩⟩
      ·rw [if_neg c45] at H
       have c45b0 : ((t225.length : Int) == 2) = false := beq_eq_false_iff_ne.mpr c45
       have c45b1 : ((t225.length : Int) != 2) = true := bne_iff_ne.mpr c45
       have H' := Aside0.mk H
       clear H
       obtain ⟨Ao49, co49, eo49⟩ := Kd.R_slice HO227.out
       subst eo49
       go_wp2
       go_meet
       case rel => exact ⟨_, (true), (by first | rfl | (simp; done) | (simp [*]; done)), H', ⟨by have := HJ3.out; first | omega | exact Nat.le_refl _⟩, ⟨by (with_reducible repeat (first | apply Kd.N_alloc | apply Kd.N_drewN | apply Kd.N_drew)); exact Kd.N_mono HO223.out (fun _ hk => ⟨hk.1.1, ⟨hk.2, ⟨hk.1.2.1, hk.1.2.2⟩⟩⟩)⟩, ⟨by (with_reducible repeat (first | apply Kd.R_alloc | apply Kd.R_drewN | apply Kd.R_drew)); exact Kd.R_mono HO227.out (fun _ hk => hk.1)⟩, ⟨by (with_reducible repeat (first | apply Kd.V_alloc | apply Kd.V_drewN | apply Kd.V_drew)); exact Kd.V_mono HO_210004.out (fun _ hk => ⟨hk.1.1.1, ⟨hk.1.2, ⟨hk.2, ⟨hk.1.1.2.1, hk.1.1.2.2⟩⟩⟩⟩)⟩, ⟨by (with_reducible repeat (first | apply Kd.V_alloc | apply Kd.V_drewN | apply Kd.V_drew)); exact Kd.V_mono HO_211004.out (fun _ hk => ⟨hk.1.1.1, ⟨hk.1.2, ⟨hk.2, ⟨hk.1.1.2.1, hk.1.1.2.2⟩⟩⟩⟩)⟩, ⟨by (with_reducible repeat (first | refine blk_drewN ?_ _ | refine blk_drew ?_ | refine blk_alloc ?_ _)); exact BK209.out⟩, ⟨by (with_reducible repeat (first | refine blk_drewN ?_ _ | refine blk_drew ?_ | refine blk_alloc ?_ _)); exact BK210.out⟩, ⟨by repeat (first | (with_reducible first | exact HB.out | apply below_alloc | apply pw_below_drewN | apply below_drew1 | refine below_set ?_ GE209.out | refine below_set ?_ GE210.out) | exact HB.out)⟩⟩
     ·rw [if_neg c44] at H
      have c44b0 : (t224 == 0) = false := beq_eq_false_iff_ne.mpr c44
      have c44b1 : (t224 != 0) = true := bne_iff_ne.mpr c44
      (first | rw [c44b0] | (simp only [i64_w, i32_w]; rw [c44b0]) | skip)
      by_cases c50 : t224 = 1
      rotate_left
      ·rw [if_neg c50] at H
       have c50b0 : (t224 == 1) = false := beq_eq_false_iff_ne.mpr c50
       have c50b1 : (t224 != 1) = true := bne_iff_ne.mpr c50
       have H' := Aside0.mk H
       clear H
       go_wp2
       go_meet
       case rel => exact ⟨_, (true), (by first | rfl | (simp; done) | (simp [*]; done)), H', ⟨by have := HJ3.out; first | omega | exact Nat.le_refl _⟩, ⟨by (with_reducible repeat (first | apply Kd.N_alloc | apply Kd.N_drewN | apply Kd.N_drew)); exact Kd.N_mono HO223.out (fun _ hk => ⟨hk.1.1, ⟨hk.2, ⟨hk.1.2.1, hk.1.2.2⟩⟩⟩)⟩, ⟨by (with_reducible repeat (first | apply Kd.R_alloc | apply Kd.R_drewN | apply Kd.R_drew)); exact Kd.R_mono HO227.out (fun _ hk => hk.1)⟩, ⟨by (with_reducible repeat (first | apply Kd.V_alloc | apply Kd.V_drewN | apply Kd.V_drew)); exact Kd.V_mono HO_210004.out (fun _ hk => ⟨hk.1.1.1, ⟨hk.1.2, ⟨hk.2, ⟨hk.1.1.2.1, hk.1.1.2.2⟩⟩⟩⟩)⟩, ⟨by (with_reducible repeat (first | apply Kd.V_alloc | apply Kd.V_drewN | apply Kd.V_drew)); exact Kd.V_mono HO_211004.out (fun _ hk => ⟨hk.1.1.1, ⟨hk.1.2, ⟨hk.2, ⟨hk.1.1.2.1, hk.1.1.2.2⟩⟩⟩⟩)⟩, ⟨by (with_reducible repeat (first | refine blk_drewN ?_ _ | refine blk_drew ?_ | refine blk_alloc ?_ _)); exact BK209.out⟩, ⟨by (with_reducible repeat (first | refine blk_drewN ?_ _ | refine blk_drew ?_ | refine blk_alloc ?_ _)); exact BK210.out⟩, ⟨by repeat (first | (with_reducible first | exact HB.out | apply below_alloc | apply pw_below_drewN | apply below_drew1 | refine below_set ?_ GE209.out | refine below_set ?_ GE210.out) | exact HB.out)⟩⟩
      rw [if_pos c50] at H
      have c50b0 : (t224 == 1) = true := beq_iff_eq.mpr c50
      have c50b1 : (t224 != 1) = false := bne_eq_false_iff_eq.mpr c50
      clear c50
      by_cases c51 : (t225.length : Int) = 2
      ·rw [if_pos c51] at H
       have c51b0 : ((t225.length : Int) == 2) = true := beq_iff_eq.mpr c51
       have c51b1 : ((t225.length : Int) != 2) = false := bne_eq_false_iff_eq.mpr c51
       clear c51
       by_cases c52 : 0 ≤ t224
       rotate_left
       ·rw [if_neg c52] at H
        exact absurd H (by simp)
       rw [if_pos c52] at H
       have c52b0 : decide (0 ≤ t224) = true := decide_eq_true c52
       clear c52
       by_cases c53 : t224 < (t225.length : Int)
       rotate_left
       ·rw [if_neg c53] at H
        exact absurd H (by simp)
       rw [if_pos c53] at H
       have c53b0 : decide (t224 < (t225.length : Int)) = true := decide_eq_true c53
       clear c53
       have H' := Aside0.mk H
       clear H
       obtain ⟨Ao54, co54, eo54⟩ := Kd.R_slice HO227.out
       subst eo54
       have p229 : 0 ≤ (t224 : Int) := of_decide_eq_true (by first | (with_reducible assumption) | assumption)
       have q229 : t224 < (t225.length : Int) := of_decide_eq_true (by first | (with_reducible assumption) | assumption)
       obtain ⟨ad229, e229, hx229_0⟩ := Kd.at_int (Kd.R_reads' HO227.out).2.2 t224 p229 q229
       cases e229
       replace p229 := eq_true p229
       replace q229 := eq_true q229
       go_wp2
       go_meet
       case rel => exact ⟨_, (((rd t225 t224) != (-1))), (by first | rfl | (simp; done) | (simp [*]; done)), H', ⟨by have := HJ3.out; first | omega | exact Nat.le_refl _⟩, ⟨by (with_reducible repeat (first | apply Kd.N_alloc | apply Kd.N_drewN | apply Kd.N_drew)); exact Kd.N_mono HO223.out (fun _ hk => ⟨hk.1.1, ⟨hk.2, ⟨hk.1.2.1, hk.1.2.2⟩⟩⟩)⟩, ⟨by (with_reducible repeat (first | apply Kd.R_alloc | apply Kd.R_drewN | apply Kd.R_drew)); exact Kd.R_mono HO227.out (fun _ hk => hk.1)⟩, ⟨by (with_reducible repeat (first | apply Kd.V_alloc | apply Kd.V_drewN | apply Kd.V_drew)); exact Kd.V_mono HO_210004.out (fun _ hk => ⟨hk.1.1.1, ⟨hk.1.2, ⟨hk.2, ⟨hk.1.1.2.1, hk.1.1.2.2⟩⟩⟩⟩)⟩, ⟨by (with_reducible repeat (first | apply Kd.V_alloc | apply Kd.V_drewN | apply Kd.V_drew)); exact Kd.V_mono HO_211004.out (fun _ hk => ⟨hk.1.1.1, ⟨hk.1.2, ⟨hk.2, ⟨hk.1.1.2.1, hk.1.1.2.2⟩⟩⟩⟩)⟩, ⟨by (with_reducible repeat (first | refine blk_drewN ?_ _ | refine blk_drew ?_ | refine blk_alloc ?_ _)); exact BK209.out⟩, ⟨by (with_reducible repeat (first | refine blk_drewN ?_ _ | refine blk_drew ?_ | refine blk_alloc ?_ _)); exact BK210.out⟩, ⟨by repeat (first | (with_reducible first | exact HB.out | apply below_alloc | apply pw_below_drewN | apply below_drew1 | refine below_set ?_ GE209.out | refine below_set ?_ GE210.out) | exact HB.out)⟩⟩
      ·rw [if_neg c51] at H
       have c51b0 : ((t225.length : Int) == 2) = false := beq_eq_false_iff_ne.mpr c51
       have c51b1 : ((t225.length : Int) != 2) = true := bne_iff_ne.mpr c51
       have H' := Aside0.mk H
       clear H
       obtain ⟨Ao55, co55, eo55⟩ := Kd.R_slice HO227.out
       subst eo55
       go_wp2
       go_meet
       case rel => exact ⟨_, (true), (by first | rfl | (simp; done) | (simp [*]; done)), H', ⟨by have := HJ3.out; first | omega | exact Nat.le_refl _⟩, ⟨by (with_reducible repeat (first | apply Kd.N_alloc | apply Kd.N_drewN | apply Kd.N_drew)); exact Kd.N_mono HO223.out (fun _ hk => ⟨hk.1.1, ⟨hk.2, ⟨hk.1.2.1, hk.1.2.2⟩⟩⟩)⟩, ⟨by (with_reducible repeat (first | apply Kd.R_alloc | apply Kd.R_drewN | apply Kd.R_drew)); exact Kd.R_mono HO227.out (fun _ hk => hk.1)⟩, ⟨by (with_reducible repeat (first | apply Kd.V_alloc | apply Kd.V_drewN | apply Kd.V_drew)); exact Kd.V_mono HO_210004.out (fun _ hk => ⟨hk.1.1.1, ⟨hk.1.2, ⟨hk.2, ⟨hk.1.1.2.1, hk.1.1.2.2⟩⟩⟩⟩)⟩, ⟨by (with_reducible repeat (first | apply Kd.V_alloc | apply Kd.V_drewN | apply Kd.V_drew)); exact Kd.V_mono HO_211004.out (fun _ hk => ⟨hk.1.1.1, ⟨hk.1.2, ⟨hk.2, ⟨hk.1.1.2.1, hk.1.1.2.2⟩⟩⟩⟩)⟩, ⟨by (with_reducible repeat (first | refine blk_drewN ?_ _ | refine blk_drew ?_ | refine blk_alloc ?_ _)); exact BK209.out⟩, ⟨by (with_reducible repeat (first | refine blk_drewN ?_ _ | refine blk_drew ?_ | refine blk_alloc ?_ _)); exact BK210.out⟩, ⟨by repeat (first | (with_reducible first | exact HB.out | apply below_alloc | apply pw_below_drewN | apply below_drew1 | refine below_set ?_ GE209.out | refine below_set ?_ GE210.out) | exact HB.out)⟩⟩
    case rest => as_aux_lemma =>
     clear HC35
     try clear c1
     try clear p2
     try clear q2
     try clear hx2
     try clear c3
     try clear c4
     try clear c5
     try clear c7
     try clear c8
     try clear c9
     try clear c11
     try clear c12
     try clear c13
     try clear c15
     try clear p22
     try clear q22
     try clear hx22
     try clear c31
     try clear c32
     try clear c36
     try clear c44
     try clear c44b0
     try clear c44b1
     try clear c45
     try clear c45b0
     try clear c45b1
     try clear c46
     try clear c46b0
     try clear c47
     try clear c47b0
     try clear c50
     try clear c50b0
     try clear c50b1
     try clear c51
     try clear c51b0
     try clear c51b1
     try clear c52
     try clear c52b0
     try clear c53
     try clear c53b0
     try clear hcz37_0
     try clear hcz37_1
     try clear hcz37_2
     try clear hcz37_3
     try clear hcz37_4
     try clear hcz38_0
     try clear hcz38_1
     try clear hcz38_2
     try clear hcz38_3
     try clear hcz38_4
     try clear hfz37_0
     try clear hfz37_1
     try clear hfz37_2
     try clear hfz37_3
     try clear hfz37_4
     try clear hfz38_0
     try clear hfz38_1
     try clear hfz38_2
     try clear hfz38_3
     try clear hfz38_4
     try clear hx228_0
     try clear hx229_0
     try clear p2
     try clear p228
     try clear p229
     try clear q228
     try clear q229
     obtain ⟨kq, x69_34, rfl, HA, HJ34, HO_6, HO_8, HO_210004, HO_211004, BK209, BK210, HB⟩ := hcut
     cases kq with
     | zero => exact absurd HA.out (by simp [phaetontop_TopLine.j1])
     | succ kj34 =>
      have H := HA.out
      clear HA
      simp only [phaetontop_TopLine.j1] at H
      by_cases c56 : x69_34 = true
      ·subst c56
       have H1 : (none) = some r := by rw [if_pos rfl] at H; exact H
       clear H
       have H := H1
       clear H1
       exact absurd H (by simp)
      ·replace c56 := Bool.eq_false_iff.mpr c56
       subst c56
       have H1 : (if 0 ≤ t224 then (if t224 < (y221.length : Int) then ((wire_Bits.f ((rd_T26 y221 t224).f0) ((rd_T26 y221 t224).f1) ((rd_T26 y221 t224).f2) ((rd_T26 y221 t224).f3) ((rd_T26 y221 t224).f4)).bind fun t231 => (if 0 ≤ (wrap64 (1 - t224)) then (if (wrap64 (1 - t224)) < (y221.length : Int) then ((wire_Bits.f ((rd_T26 y221 (wrap64 (1 - t224))).f0) ((rd_T26 y221 (wrap64 (1 - t224))).f1) ((rd_T26 y221 (wrap64 (1 - t224))).f2) ((rd_T26 y221 (wrap64 (1 - t224))).f3) ((rd_T26 y221 (wrap64 (1 - t224))).f4)).bind fun t235 => (phaetontop_TopLine.l0 kj34 t211 y221 t224 t225 t231 t235 0)) else (none)) else (none))) else (none)) else (none)) = some r := by rw [if_neg (show ¬ (false = true) by decide)] at H; exact H
       clear H
       have H := H1
       clear H1
       by_cases c57 : 0 ≤ t224
       rotate_left
       ·rw [if_neg c57] at H
        exact absurd H (by simp)

       rw [if_pos c57] at H
       have c57b0 : decide (0 ≤ t224) = true := decide_eq_true c57
       clear c57
       by_cases c58 : t224 < (y221.length : Int)
       rotate_left
       ·rw [if_neg c58] at H
        exact absurd H (by simp)
       rw [if_pos c58] at H
       have c58b0 : decide (t224 < (y221.length : Int)) = true := decide_eq_true c58
       clear c58
       replace H := Option.bind_eq_some_iff.mp H
       obtain ⟨t231, A590, H⟩ := H
       replace H : (if 0 ≤ (wrap64 (1 - t224)) then (if (wrap64 (1 - t224)) < (y221.length : Int) then ((wire_Bits.f ((rd_T26 y221 (wrap64 (1 - t224))).f0) ((rd_T26 y221 (wrap64 (1 - t224))).f1) ((rd_T26 y221 (wrap64 (1 - t224))).f2) ((rd_T26 y221 (wrap64 (1 - t224))).f3) ((rd_T26 y221 (wrap64 (1 - t224))).f4)).bind fun t235 => (phaetontop_TopLine.l0 kj34 t211 y221 t224 t225 t231 t235 0)) else (none)) else (none)) = some r := H
       have A59 := Aside0.mk A590
       clear A590
       obtain ⟨ji60, hji60⟩ : ∃ j_ : Int, (wrap64 (1 - t224)) = j_ := ⟨_, rfl⟩
       replace H : (if 0 ≤ (ji60) then (if (ji60) < (y221.length : Int) then ((wire_Bits.f ((rd_T26 y221 (ji60)).f0) ((rd_T26 y221 (ji60)).f1) ((rd_T26 y221 (ji60)).f2) ((rd_T26 y221 (ji60)).f3) ((rd_T26 y221 (ji60)).f4)).bind fun t235 => (phaetontop_TopLine.l0 kj34 t211 y221 t224 t225 t231 t235 0)) else (none)) else (none)) = some r := by first | (rw [hji60] at H; exact H) | (simp only [hji60] at H ⊢; exact H)
       (try rw [hji60] at A59)
       have hji60w : (IntKind.i64.wrap (1 - t224)) = ji60 := (i64_w _).trans hji60
       by_cases c61 : 0 ≤ (ji60)
       rotate_left
       ·rw [if_neg c61] at H
        exact absurd H (by simp)
       rw [if_pos c61] at H
       have c61b0 : decide (0 ≤ (ji60)) = true := decide_eq_true c61
       clear c61
       by_cases c62 : (ji60) < (y221.length : Int)
       rotate_left
       ·rw [if_neg c62] at H
        exact absurd H (by simp)
       rw [if_pos c62] at H
       have c62b0 : decide ((ji60) < (y221.length : Int)) = true := decide_eq_true c62
       clear c62
       replace H := Option.bind_eq_some_iff.mp H
       obtain ⟨t235, A630, H⟩ := H
       replace H : (phaetontop_TopLine.l0 kj34 t211 y221 t224 t225 t231 t235 0) = some r := H
       have A63 := Aside0.mk A630
       clear A630
       have HC64 := Aside0.mk H
       clear H
       have p230 : 0 ≤ (t224 : Int) := of_decide_eq_true (by first | (with_reducible assumption) | assumption)
       have q230 : t224 < (y221.length : Int) := of_decide_eq_true (by first | (with_reducible assumption) | assumption)
       obtain ⟨ad230, A230_4, c230_4, e230, hx230_0, hx230_1, hx230_2, hx230_3, hx230_4, hl230_4, hi230_4⟩ := at_T26 (Kd.N_reads' HO_6.out).2.2 t224 p230 q230
       cases e230
       obtain ⟨ce230, hce230, hMe230, hcc230⟩ := Kd.N_get HO_6.out z26 t224 p230 (by first | exact q230 | exact of_decide_eq_true (by first | (with_reducible assumption) | assumption) | (have e_ := (Kd.N_reads' HO_6.out).1; omega))
       obtain ⟨ua230_4, uc230_4, rfl, ul230_4, ge230_4⟩ := k26_openF hMe230
       have hv230_4 := hcc230 4 _ rfl
       rw [add_field _ _ 4 (by omega)] at hv230_4
       replace hv230_4 := Option.some.inj (hv230_4.symm.trans hx230_4)
       injection hv230_4 with hva_ hvn_ hvc_
       rw [hva_] at ge230_4
       rw [hvc_] at ul230_4
       have HL230_4 := Aside0.mk (show Kd.V (Kd.int .u8) 5 _ w.heap.size _ _ ((rd_T26 y221 t224).f4) from Kd.V_mk ul230_4 ge230_4)
       clear hva_ hvn_ hvc_ ge230_4 ul230_4
       clear hcc230 hce230
       have HR230_4 := Aside0.mk hi230_4
       have HC230_4 := Aside0.mk hl230_4
       clear hi230_4 hl230_4
       replace p230 := eq_true p230
       replace q230 := eq_true q230
       go_upto_block 0 with (first | ((with_reducible refine gate_callee (f := 13) rfl ?_); refine goesL_ (some 74) rfl rfl Try.func13 (by kernel_rfl) rfl #[.agg #[.bool ((rd_T26 y221 t224).f0), .int .i64 ((rd_T26 y221 t224).f1), .bool ((rd_T26 y221 t224).f2), .int .i64 ((rd_T26 y221 t224).f3), .slice A230_4 ((rd_T26 y221 t224).f4).length c230_4]] rfl (by (try simp only [List.map_toArray, List.map_cons, List.map_nil]); first | done | rfl | (simp only [List.length_drop, List.length_take]; rfl)) ?_; (with_reducible refine (wire_Bits.calls ((rd_T26 y221 t224).f0) ((rd_T26 y221 t224).f1) ((rd_T26 y221 t224).f2) ((rd_T26 y221 t224).f3) _ _ ((rd_T26 y221 t224).f4) t231 _ ?side1 ?side2 A59.out).mono ?_); (case side1 => repeat (first | exact (by repeat (first | (with_reducible exact HR230_4.out) | (with_reducible refine Kd.C_alloc ?_ _) | (with_reducible refine Kd.C_drewN ?_ _) | (with_reducible refine Kd.C_drew ?_) | exact HR230_4.out)) | (with_reducible refine Kd.C_alloc ?_ _) | (with_reducible refine Kd.C_drewN ?_ _) | (with_reducible refine Kd.C_drew ?_))); (case side2 => exact HC230_4.out); rintro e w65 ⟨v232, rfl, ho0, hb⟩; refine ⟨_, rfl, ?_⟩; have n0_ := Aside0.mk (Kd.N_elder' (by (with_reducible repeat (first | apply Kd.N_alloc | apply Kd.N_drewN | apply Kd.N_drew)); exact HO_6.out) (Kd.R_base ho0) hb); have n1_ := Aside0.mk (Kd.R_elder' (by (with_reducible repeat (first | apply Kd.R_alloc | apply Kd.R_drewN | apply Kd.R_drew)); exact HO_8.out) (Kd.R_base ho0) hb); have n2_ := Aside0.mk (Kd.V_elder' (by (with_reducible repeat (first | apply Kd.V_alloc | apply Kd.V_drewN | apply Kd.V_drew)); exact HO_210004.out) (Kd.R_base ho0) hb); have n3_ := Aside0.mk (Kd.V_elder' (by (with_reducible repeat (first | apply Kd.V_alloc | apply Kd.V_drewN | apply Kd.V_drew)); exact HO_211004.out) (Kd.R_base ho0) hb); have n4_ := Aside0.mk (Kd.V_elder' (by (with_reducible repeat (first | apply Kd.V_alloc | apply Kd.V_drewN | apply Kd.V_drew)); exact HL230_4.out) (Kd.R_base ho0) hb); have n5_ := Aside0.mk (Kd.R_lower (Kd.R_new' (Kd.R_newM (M := fun k_ => (w.heap.size ≤ k_)) ho0 (below_size (by repeat (first | (with_reducible first | exact HB.out | apply below_alloc | apply pw_below_drewN | apply below_drew1 | refine below_set ?_ GE209.out | refine below_set ?_ GE210.out) | exact HB.out))) (fun k_ h_ => h_)) (Kd.R_lt (by (with_reducible repeat (first | apply Kd.R_alloc | apply Kd.R_drewN | apply Kd.R_drew)); exact HO_8.out))) (below_size (by repeat (first | (with_reducible first | exact HB.out | apply below_alloc | apply pw_below_drewN | apply below_drew1 | refine below_set ?_ GE209.out | refine below_set ?_ GE210.out) | exact HB.out)))); have n6_ := Aside0.mk (blk_below (g := gb209) (o := .cells #[.bool a0_0, .int .i64 a0_1, .bool a0_2, .int .i64 a0_3, .slice A0_4 l0_4.length c0_4] 26 (0, 0)) (by (with_reducible repeat (first | refine blk_drewN ?_ _ | refine blk_drew ?_ | refine blk_alloc ?_ _)); exact BK209.out) hb); have n7_ := Aside0.mk (blk_below (g := gb210) (o := .cells #[.bool a1_0, .int .i64 a1_1, .bool a1_2, .int .i64 a1_3, .slice A1_4 l1_4.length c1_4] 26 (0, 0)) (by (with_reducible repeat (first | refine blk_drewN ?_ _ | refine blk_drew ?_ | refine blk_alloc ?_ _)); exact BK210.out) hb); have n8_ := Aside0.mk (Kd.C_below (by repeat (first | (with_reducible exact HR230_4.out) | (with_reducible refine Kd.C_alloc ?_ _) | (with_reducible refine Kd.C_drewN ?_ _) | (with_reducible refine Kd.C_drew ?_) | exact HR230_4.out)) hb); have n9_ := Aside0.mk (below_step (by repeat (first | (with_reducible first | exact HB.out | apply below_alloc | apply pw_below_drewN | apply below_drew1 | refine below_set ?_ GE209.out | refine below_set ?_ GE210.out) | exact HB.out)) hb); clear HO_6; clear HO_8; clear HO_210004; clear HO_211004; clear HL230_4; clear BK209; clear BK210; clear HR230_4; clear HB; have HO_6 := n0_; have HO_8 := n1_; have HO_210004 := n2_; have HO_211004 := n3_; have HL230_4 := n4_; have HO233 := n5_; have BK209 := n6_; have BK210 := n7_; have HR230_4 := n8_; have HB := n9_; clear n0_ n1_ n2_ n3_ n4_ n5_ n6_ n7_ n8_ n9_; (try clear hb); (try clear hb2); (try clear hk); (try clear hi); (try clear ho0); have p234 : 0 ≤ ((ji60) : Int) := of_decide_eq_true (by first | (with_reducible assumption) | assumption); have q234 : (ji60) < (y221.length : Int) := of_decide_eq_true (by first | (with_reducible assumption) | assumption); obtain ⟨ad234, A234_4, c234_4, e234, hx234_0, hx234_1, hx234_2, hx234_3, hx234_4, hl234_4, hi234_4⟩ := at_T26 (Kd.N_reads' HO_6.out).2.2 (ji60) p234 q234; obtain rfl : ad230 = ad234 := (by injection e234); obtain ⟨ce234, hce234, hMe234, hcc234⟩ := Kd.N_get HO_6.out z26 (ji60) p234 (by first | exact q234 | exact of_decide_eq_true (by first | (with_reducible assumption) | assumption) | (have e_ := (Kd.N_reads' HO_6.out).1; omega)); obtain ⟨ua234_4, uc234_4, rfl, ul234_4, ge234_4⟩ := k26_openF hMe234; have hv234_4 := hcc234 4 _ rfl; rw [add_field _ _ 4 (by omega)] at hv234_4; replace hv234_4 := Option.some.inj (hv234_4.symm.trans hx234_4); injection hv234_4 with hva_ hvn_ hvc_; rw [hva_] at ge234_4; rw [hvc_] at ul234_4; have HL234_4 := Aside0.mk (show Kd.V (Kd.int .u8) 5 _ w.heap.size _ _ ((rd_T26 y221 (ji60)).f4) from Kd.V_mk ul234_4 ge234_4); clear hva_ hvn_ hvc_ ge234_4 ul234_4; clear hcc234 hce234; have HR234_4 := Aside0.mk hi234_4; have HC234_4 := Aside0.mk hl234_4; clear hi234_4 hl234_4; replace p234 := eq_true p234; replace q234 := eq_true q234) | ((with_reducible refine gate_callee (f := 13) rfl ?_); refine goesL_ (some 80) rfl rfl Try.func13 (by kernel_rfl) rfl #[.agg #[.bool ((rd_T26 y221 (ji60)).f0), .int .i64 ((rd_T26 y221 (ji60)).f1), .bool ((rd_T26 y221 (ji60)).f2), .int .i64 ((rd_T26 y221 (ji60)).f3), .slice A234_4 ((rd_T26 y221 (ji60)).f4).length c234_4]] rfl (by (try simp only [List.map_toArray, List.map_cons, List.map_nil]); first | done | (simp only [hji60]; rfl) | rfl | (simp only [List.length_drop, List.length_take]; rfl)) ?_; (with_reducible refine (wire_Bits.calls ((rd_T26 y221 (ji60)).f0) ((rd_T26 y221 (ji60)).f1) ((rd_T26 y221 (ji60)).f2) ((rd_T26 y221 (ji60)).f3) _ _ ((rd_T26 y221 (ji60)).f4) t235 _ ?side1 ?side2 A63.out).mono ?_); (case side1 => repeat (first | exact (by repeat (first | (with_reducible exact HR234_4.out) | (with_reducible refine Kd.C_alloc ?_ _) | (with_reducible refine Kd.C_drewN ?_ _) | (with_reducible refine Kd.C_drew ?_) | exact HR234_4.out)) | (with_reducible refine Kd.C_alloc ?_ _) | (with_reducible refine Kd.C_drewN ?_ _) | (with_reducible refine Kd.C_drew ?_))); (case side2 => exact HC234_4.out); rintro e w66 ⟨v236, rfl, ho0, hb⟩; refine ⟨_, rfl, ?_⟩; have n0_ := Aside0.mk (Kd.N_elder' (by (with_reducible repeat (first | apply Kd.N_alloc | apply Kd.N_drewN | apply Kd.N_drew)); exact HO_6.out) (Kd.R_base ho0) hb); have n1_ := Aside0.mk (Kd.R_elder' (by (with_reducible repeat (first | apply Kd.R_alloc | apply Kd.R_drewN | apply Kd.R_drew)); exact HO_8.out) (Kd.R_base ho0) hb); have n2_ := Aside0.mk (Kd.V_elder' (by (with_reducible repeat (first | apply Kd.V_alloc | apply Kd.V_drewN | apply Kd.V_drew)); exact HO_210004.out) (Kd.R_base ho0) hb); have n3_ := Aside0.mk (Kd.V_elder' (by (with_reducible repeat (first | apply Kd.V_alloc | apply Kd.V_drewN | apply Kd.V_drew)); exact HO_211004.out) (Kd.R_base ho0) hb); have n4_ := Aside0.mk (Kd.V_elder' (by (with_reducible repeat (first | apply Kd.V_alloc | apply Kd.V_drewN | apply Kd.V_drew)); exact HL230_4.out) (Kd.R_base ho0) hb); have n5_ := Aside0.mk (Kd.R_elder' (by (with_reducible repeat (first | apply Kd.R_alloc | apply Kd.R_drewN | apply Kd.R_drew)); exact HO233.out) (Kd.R_base ho0) hb); have n6_ := Aside0.mk (Kd.V_elder' (by (with_reducible repeat (first | apply Kd.V_alloc | apply Kd.V_drewN | apply Kd.V_drew)); exact HL234_4.out) (Kd.R_base ho0) hb); have n7_ := Aside0.mk (Kd.R_lower (Kd.R_new' (Kd.R_new' (Kd.R_newM (M := fun k_ => (w.heap.size ≤ k_)) ho0 (below_size (by repeat (first | (with_reducible first | exact HB.out | apply below_alloc | apply pw_below_drewN | apply below_drew1 | refine below_set ?_ GE209.out | refine below_set ?_ GE210.out) | exact HB.out))) (fun k_ h_ => h_)) (Kd.R_lt (by (with_reducible repeat (first | apply Kd.R_alloc | apply Kd.R_drewN | apply Kd.R_drew)); exact HO_8.out))) (Kd.R_lt (by (with_reducible repeat (first | apply Kd.R_alloc | apply Kd.R_drewN | apply Kd.R_drew)); exact HO233.out))) (below_size (by repeat (first | (with_reducible first | exact HB.out | apply below_alloc | apply pw_below_drewN | apply below_drew1 | refine below_set ?_ GE209.out | refine below_set ?_ GE210.out) | exact HB.out)))); have n8_ := Aside0.mk (blk_below (g := gb209) (o := .cells #[.bool a0_0, .int .i64 a0_1, .bool a0_2, .int .i64 a0_3, .slice A0_4 l0_4.length c0_4] 26 (0, 0)) (by (with_reducible repeat (first | refine blk_drewN ?_ _ | refine blk_drew ?_ | refine blk_alloc ?_ _)); exact BK209.out) hb); have n9_ := Aside0.mk (blk_below (g := gb210) (o := .cells #[.bool a1_0, .int .i64 a1_1, .bool a1_2, .int .i64 a1_3, .slice A1_4 l1_4.length c1_4] 26 (0, 0)) (by (with_reducible repeat (first | refine blk_drewN ?_ _ | refine blk_drew ?_ | refine blk_alloc ?_ _)); exact BK210.out) hb); have n10_ := Aside0.mk (Kd.C_below (by repeat (first | (with_reducible exact HR230_4.out) | (with_reducible refine Kd.C_alloc ?_ _) | (with_reducible refine Kd.C_drewN ?_ _) | (with_reducible refine Kd.C_drew ?_) | exact HR230_4.out)) hb); have n11_ := Aside0.mk (Kd.C_below (by repeat (first | (with_reducible exact HR234_4.out) | (with_reducible refine Kd.C_alloc ?_ _) | (with_reducible refine Kd.C_drewN ?_ _) | (with_reducible refine Kd.C_drew ?_) | exact HR234_4.out)) hb); have n12_ := Aside0.mk (below_step (by repeat (first | (with_reducible first | exact HB.out | apply below_alloc | apply pw_below_drewN | apply below_drew1 | refine below_set ?_ GE209.out | refine below_set ?_ GE210.out) | exact HB.out)) hb); clear HO_6; clear HO_8; clear HO_210004; clear HO_211004; clear HL230_4; clear HO233; clear HL234_4; clear BK209; clear BK210; clear HR230_4; clear HR234_4; clear HB; have HO_6 := n0_; have HO_8 := n1_; have HO_210004 := n2_; have HO_211004 := n3_; have HL230_4 := n4_; have HO233 := n5_; have HL234_4 := n6_; have HO237 := n7_; have BK209 := n8_; have BK210 := n9_; have HR230_4 := n10_; have HR234_4 := n11_; have HB := n12_; clear n0_ n1_ n2_ n3_ n4_ n5_ n6_ n7_ n8_ n9_ n10_ n11_ n12_; (try clear hb); (try clear hb2); (try clear hk); (try clear hi); (try clear ho0)))
       (try simp only [Act.put, List.setIfInBounds_toArray, List.set_cons_zero, List.set_cons_succ])
       go_cut [11] (fun v11 wc => ∃ (kq : Nat) (x11_63 : Int), v11 = .int .i64 x11_63 ∧ Aside0 (phaetontop_TopLine.j3 kq t211 y221 t224 t225 t231 t235 x11_63 = some r) ∧ Aside0 (kq ≤ kj34) ∧ Aside0 (Kd.N k26 26 wc w.heap.size (fun k_ => ((P0_4_ k_ ∨ P1_4_ k_) ∨ w.heap.size ≤ k_) ∧ some k_ ≠ (v226 : Value).ownBlock ∧ some k_ ≠ (v232 : Value).ownBlock ∧ some k_ ≠ (v236 : Value).ownBlock ∧ k_ ≠ gb209 ∧ k_ ≠ gb210) (.slice (some ad230) y221.length co41) y221) ∧ Aside0 (Kd.R (Kd.int .i64) 3 wc w.heap.size (fun k_ => (w.heap.size ≤ k_) ∧ some k_ ≠ (v232 : Value).ownBlock ∧ some k_ ≠ (v236 : Value).ownBlock) v226 t225) ∧ Aside0 (Kd.R (Kd.int .i64) 3 wc w.heap.size (fun k_ => (w.heap.size ≤ k_) ∧ some k_ ≠ (v226 : Value).ownBlock ∧ some k_ ≠ (v236 : Value).ownBlock) v232 t231) ∧ Aside0 (Kd.R (Kd.int .i64) 3 wc w.heap.size (fun k_ => (w.heap.size ≤ k_) ∧ some k_ ≠ (v226 : Value).ownBlock ∧ some k_ ≠ (v232 : Value).ownBlock) v236 t235) ∧ Aside0 (Kd.V (Kd.int .u8) 5 wc w.heap.size (fun k_ => ((P0_4_ k_ ∨ P1_4_ k_) ∨ w.heap.size ≤ k_) ∧ some k_ ≠ ((.slice (some ad230) y221.length co41) : Value).ownBlock ∧ some k_ ≠ (v226 : Value).ownBlock ∧ some k_ ≠ (v232 : Value).ownBlock ∧ some k_ ≠ (v236 : Value).ownBlock ∧ k_ ≠ gb209 ∧ k_ ≠ gb210) (.slice A0_4 l0_4.length c0_4) l0_4) ∧ Aside0 (Kd.V (Kd.int .u8) 5 wc w.heap.size (fun k_ => ((P0_4_ k_ ∨ P1_4_ k_) ∨ w.heap.size ≤ k_) ∧ some k_ ≠ ((.slice (some ad230) y221.length co41) : Value).ownBlock ∧ some k_ ≠ (v226 : Value).ownBlock ∧ some k_ ≠ (v232 : Value).ownBlock ∧ some k_ ≠ (v236 : Value).ownBlock ∧ k_ ≠ gb209 ∧ k_ ≠ gb210) (.slice A1_4 l1_4.length c1_4) l1_4) ∧ Aside0 (wc.heap[gb209]? = some (.cells #[.bool a0_0, .int .i64 a0_1, .bool a0_2, .int .i64 a0_3, (.slice A0_4 l0_4.length c0_4)] 26 (0, 0))) ∧ Aside0 (wc.heap[gb210]? = some (.cells #[.bool a1_0, .int .i64 a1_1, .bool a1_2, .int .i64 a1_3, (.slice A1_4 l1_4.length c1_4)] 26 (0, 0))) ∧ Aside0 (Kd.C (Kd.int .u8) wc A230_4 ((rd_T26 y221 t224).f4).length ((rd_T26 y221 t224).f4)) ∧ Aside0 (Kd.C (Kd.int .u8) wc A234_4 ((rd_T26 y221 (ji60)).f4).length ((rd_T26 y221 (ji60)).f4)) ∧ Aside0 (Below w.heap.size w wc))
       case first => as_aux_lemma =>
        have H := HC64.out
        clear HC64
        have H' := Aside0.mk H
        clear H
        go_wp2
        go_loopg [11] kj34 (fun kq v11 w' => ∃ (x11_3 : Int), v11 = .int .i64 x11_3 ∧ Aside0 (phaetontop_TopLine.l0 kq t211 y221 t224 t225 t231 t235 x11_3 = some r) ∧ Aside0 (kq ≤ kj34) ∧ Aside0 (Kd.N k26 26 w' w.heap.size (fun k_ => ((P0_4_ k_ ∨ P1_4_ k_) ∨ w.heap.size ≤ k_) ∧ some k_ ≠ (v226 : Value).ownBlock ∧ some k_ ≠ (v232 : Value).ownBlock ∧ some k_ ≠ (v236 : Value).ownBlock ∧ k_ ≠ gb209 ∧ k_ ≠ gb210) (.slice (some ad230) y221.length co41) y221) ∧ Aside0 (Kd.R (Kd.int .i64) 3 w' w.heap.size (fun k_ => (w.heap.size ≤ k_) ∧ some k_ ≠ (v232 : Value).ownBlock ∧ some k_ ≠ (v236 : Value).ownBlock) v226 t225) ∧ Aside0 (Kd.R (Kd.int .i64) 3 w' w.heap.size (fun k_ => (w.heap.size ≤ k_) ∧ some k_ ≠ (v226 : Value).ownBlock ∧ some k_ ≠ (v236 : Value).ownBlock) v232 t231) ∧ Aside0 (Kd.R (Kd.int .i64) 3 w' w.heap.size (fun k_ => (w.heap.size ≤ k_) ∧ some k_ ≠ (v226 : Value).ownBlock ∧ some k_ ≠ (v232 : Value).ownBlock) v236 t235) ∧ Aside0 (Kd.V (Kd.int .u8) 5 w' w.heap.size (fun k_ => ((P0_4_ k_ ∨ P1_4_ k_) ∨ w.heap.size ≤ k_) ∧ some k_ ≠ ((.slice (some ad230) y221.length co41) : Value).ownBlock ∧ some k_ ≠ (v226 : Value).ownBlock ∧ some k_ ≠ (v232 : Value).ownBlock ∧ some k_ ≠ (v236 : Value).ownBlock ∧ k_ ≠ gb209 ∧ k_ ≠ gb210) (.slice A0_4 l0_4.length c0_4) l0_4) ∧ Aside0 (Kd.V (Kd.int .u8) 5 w' w.heap.size (fun k_ => ((P0_4_ k_ ∨ P1_4_ k_) ∨ w.heap.size ≤ k_) ∧ some k_ ≠ ((.slice (some ad230) y221.length co41) : Value).ownBlock ∧ some k_ ≠ (v226 : Value).ownBlock ∧ some k_ ≠ (v232 : Value).ownBlock ∧ some k_ ≠ (v236 : Value).ownBlock ∧ k_ ≠ gb209 ∧ k_ ≠ gb210) (.slice A1_4 l1_4.length c1_4) l1_4) ∧ Aside0 (w'.heap[gb209]? = some (.cells #[.bool a0_0, .int .i64 a0_1, .bool a0_2, .int .i64 a0_3, (.slice A0_4 l0_4.length c0_4)] 26 (0, 0))) ∧ Aside0 (w'.heap[gb210]? = some (.cells #[.bool a1_0, .int .i64 a1_1, .bool a1_2, .int .i64 a1_3, (.slice A1_4 l1_4.length c1_4)] 26 (0, 0))) ∧ Aside0 (Kd.C (Kd.int .u8) w' A230_4 ((rd_T26 y221 t224).f4).length ((rd_T26 y221 t224).f4)) ∧ Aside0 (Kd.C (Kd.int .u8) w' A234_4 ((rd_T26 y221 (ji60)).f4).length ((rd_T26 y221 (ji60)).f4)) ∧ Aside0 (Below w.heap.size w w'))
        case atStart => exact ⟨(0), (by first | rfl | (simp; done) | (simp [*]; done)), H', ⟨Nat.le_refl _⟩, ⟨by (with_reducible repeat (first | apply Kd.N_alloc | apply Kd.N_drewN | apply Kd.N_drew)); exact Kd.N_mono HO_6.out (fun _ hk => ⟨hk.1.1.1, ⟨hk.1.1.2.1, ⟨hk.1.2, ⟨hk.2, ⟨hk.1.1.2.2.1, hk.1.1.2.2.2⟩⟩⟩⟩⟩)⟩, ⟨by (with_reducible repeat (first | apply Kd.R_alloc | apply Kd.R_drewN | apply Kd.R_drew)); exact Kd.R_mono HO_8.out (fun _ hk => ⟨hk.1.1, ⟨hk.1.2, hk.2⟩⟩)⟩, ⟨by (with_reducible repeat (first | apply Kd.R_alloc | apply Kd.R_drewN | apply Kd.R_drew)); exact Kd.R_mono HO233.out (fun _ hk => ⟨hk.1.1.1, ⟨hk.1.2, hk.2⟩⟩)⟩, ⟨by (with_reducible repeat (first | apply Kd.R_alloc | apply Kd.R_drewN | apply Kd.R_drew)); exact Kd.R_mono HO237.out (fun _ hk => ⟨hk.1.1.1, ⟨hk.1.2, hk.2⟩⟩)⟩, ⟨by (with_reducible repeat (first | apply Kd.V_alloc | apply Kd.V_drewN | apply Kd.V_drew)); exact Kd.V_mono HO_210004.out (fun _ hk => ⟨hk.1.1.1, ⟨hk.1.1.2.1, ⟨hk.1.1.2.2.1, ⟨hk.1.2, ⟨hk.2, ⟨hk.1.1.2.2.2.1, hk.1.1.2.2.2.2⟩⟩⟩⟩⟩⟩)⟩, ⟨by (with_reducible repeat (first | apply Kd.V_alloc | apply Kd.V_drewN | apply Kd.V_drew)); exact Kd.V_mono HO_211004.out (fun _ hk => ⟨hk.1.1.1, ⟨hk.1.1.2.1, ⟨hk.1.1.2.2.1, ⟨hk.1.2, ⟨hk.2, ⟨hk.1.1.2.2.2.1, hk.1.1.2.2.2.2⟩⟩⟩⟩⟩⟩)⟩, ⟨by (with_reducible repeat (first | refine blk_drewN ?_ _ | refine blk_drew ?_ | refine blk_alloc ?_ _)); exact BK209.out⟩, ⟨by (with_reducible repeat (first | refine blk_drewN ?_ _ | refine blk_drew ?_ | refine blk_alloc ?_ _)); exact BK210.out⟩, ⟨by repeat (first | (with_reducible exact HR230_4.out) | (with_reducible refine Kd.C_alloc ?_ _) | (with_reducible refine Kd.C_drewN ?_ _) | (with_reducible refine Kd.C_drew ?_) | exact HR230_4.out)⟩, ⟨by repeat (first | (with_reducible exact HR234_4.out) | (with_reducible refine Kd.C_alloc ?_ _) | (with_reducible refine Kd.C_drewN ?_ _) | (with_reducible refine Kd.C_drew ?_) | exact HR234_4.out)⟩, ⟨by repeat (first | (with_reducible first | exact HB.out | apply below_alloc | apply pw_below_drewN | apply below_drew1 | refine below_set ?_ GE209.out | refine below_set ?_ GE210.out) | exact HB.out)⟩⟩
        case round =>
         clear H'
         try clear c1
         try clear c2
         try clear p2
         try clear q2
         try clear hx2
         try clear c3
         try clear c4
         try clear c5
         try clear c6
         try clear p6
         try clear c7
         try clear c8
         try clear c9
         try clear c11
         try clear c12
         try clear c13
         try clear c15
         try clear p22
         try clear q22
         try clear hx22
         try clear c23
         try clear p23
         try clear q23
         try clear hx23
         try clear c31
         try clear c32
         try clear c36
         try clear c44
         try clear c44b0
         try clear c44b1
         try clear c45
         try clear c45b0
         try clear c45b1
         try clear c46
         try clear c46b0
         try clear c47
         try clear c47b0
         try clear c50
         try clear c50b0
         try clear c50b1
         try clear c51
         try clear c51b0
         try clear c51b1
         try clear c52
         try clear c52b0
         try clear c53
         try clear c53b0
         try clear c56
         try clear c57
         try clear c57b0
         try clear c58
         try clear c58b0
         try clear c61
         try clear c61b0
         try clear c62
         try clear c62b0
         try clear p64
         try clear hcz37_0
         try clear hcz37_1
         try clear hcz37_2
         try clear hcz37_3
         try clear hcz37_4
         try clear hcz38_0
         try clear hcz38_1
         try clear hcz38_2
         try clear hcz38_3
         try clear hcz38_4
         try clear hfz37_0
         try clear hfz37_1
         try clear hfz37_2
         try clear hfz37_3
         try clear hfz37_4
         try clear hfz38_0
         try clear hfz38_1
         try clear hfz38_2
         try clear hfz38_3
         try clear hfz38_4
         try clear hx228_0
         try clear hx229_0
         try clear hx230_0
         try clear hx230_1
         try clear hx230_2
         try clear hx230_3
         try clear hx230_4
         try clear hx234_0
         try clear hx234_1
         try clear hx234_2
         try clear hx234_3
         try clear hx234_4
         try clear p2
         try clear p22
         try clear p228
         try clear p229
         try clear p230
         try clear p234
         try clear q2
         try clear q22
         try clear q228
         try clear q229
         try clear q230
         try clear q234
         obtain ⟨x11_3, rfl, HA, HK3, HO_6, HO_8, HO_9, HO_10, HO_210004, HO_211004, BK209, BK210, HR230_4, HR234_4, HB⟩ := hrel
         cases gk with
         | zero => exact absurd HA.out (by simp [phaetontop_TopLine.l0])
         | succ k3 =>
          have H := HA.out
          clear HA
          simp only [phaetontop_TopLine.l0] at H
          by_cases c67 : x11_3 < (t231.length : Int)
          ·rw [if_pos c67] at H
           have c67b0 : decide (x11_3 < (t231.length : Int)) = true := decide_eq_true c67
           clear c67
           (first | rw [c67b0] | (simp only [i64_w, i32_w]; rw [c67b0]) | skip)
           by_cases c68 : x11_3 < (t235.length : Int)
           ·rw [if_pos c68] at H
            have c68b0 : decide (x11_3 < (t235.length : Int)) = true := decide_eq_true c68
            clear c68
            by_cases c69 : 0 ≤ x11_3
            rotate_left
            ·rw [if_neg c69] at H
             exact absurd H (by simp)
            rw [if_pos c69] at H
            have c69b0 : decide (0 ≤ x11_3) = true := decide_eq_true c69
            clear c69
            by_cases c70 : (rd t231 x11_3) = (rd t235 x11_3)
            ·rw [if_pos c70] at H
             have c70b0 : ((rd t231 x11_3) == (rd t235 x11_3)) = true := beq_iff_eq.mpr c70
             have c70b1 : ((rd t231 x11_3) != (rd t235 x11_3)) = false := bne_eq_false_iff_eq.mpr c70
             clear c70
             have H' := Aside0.mk H
             clear H
             try go_wp2
             have n0_ := Aside0.mk (Kd.N_drew HO_6.out)
             have n1_ := Aside0.mk (Kd.R_drew HO_8.out)
             have n2_ := Aside0.mk (Kd.R_drew HO_9.out)
             have n3_ := Aside0.mk (Kd.R_drew HO_10.out)
             have n4_ := Aside0.mk (Kd.V_drew HO_210004.out)
             have n5_ := Aside0.mk (Kd.V_drew HO_211004.out)
             have n6_ := Aside0.mk (blk_drew BK209.out)
             have n7_ := Aside0.mk (blk_drew BK210.out)
             have n8_ := Aside0.mk (Kd.C_drew HR230_4.out)
             have n9_ := Aside0.mk (Kd.C_drew HR234_4.out)
             have n10_ := Aside0.mk (below_drew1 HB.out)
             clear HO_6
             clear HO_8
             clear HO_9
             clear HO_10
             clear HO_210004
             clear HO_211004
             clear BK209
             clear BK210
             clear HR230_4
             clear HR234_4
             clear HB
             have HO_6 := n0_
             have HO_8 := n1_
             have HO_9 := n2_
             have HO_10 := n3_
             have HO_210004 := n4_
             have HO_211004 := n5_
             have BK209 := n6_
             have BK210 := n7_
             have HR230_4 := n8_
             have HR234_4 := n9_
             have HB := n10_
             clear n0_ n1_ n2_ n3_ n4_ n5_ n6_ n7_ n8_ n9_ n10_
             obtain ⟨Ao72, co72, eo72⟩ := Kd.R_slice HO_9.out
             (first | subst eo72 | (injection eo72 with f1_ f2_ f3_; have f4_ := f1_.symm; have f5_ := f3_.symm; clear f1_ f2_ f3_; subst f4_; subst f5_))
             obtain ⟨Ao73, co73, eo73⟩ := Kd.R_slice HO_10.out
             (first | subst eo73 | (injection eo73 with f1_ f2_ f3_; have f4_ := f1_.symm; have f5_ := f3_.symm; clear f1_ f2_ f3_; subst f4_; subst f5_))
             have p238 : 0 ≤ (x11_3 : Int) := of_decide_eq_true (by first | (with_reducible assumption) | assumption)
             have q238 : x11_3 < (t231.length : Int) := of_decide_eq_true (by first | (with_reducible assumption) | assumption)
             obtain ⟨ad238, e238, hx238_0⟩ := Kd.at_int (Kd.R_reads' HO_9.out).2.2 x11_3 p238 q238
             cases e238
             replace p238 := eq_true p238
             replace q238 := eq_true q238
             have p239 : 0 ≤ (x11_3 : Int) := of_decide_eq_true (by first | (with_reducible assumption) | assumption)
             have q239 : x11_3 < (t235.length : Int) := of_decide_eq_true (by first | (with_reducible assumption) | assumption)
             obtain ⟨ad239, e239, hx239_0⟩ := Kd.at_int (Kd.R_reads' HO_10.out).2.2 x11_3 p239 q239
             cases e239
             replace p239 := eq_true p239
             replace q239 := eq_true q239
             refine start_ (n := 21) (S := fun w' => w'.cell? (ad238.add (x11_3).toNat) = some (.int .i64 (rd t231 x11_3)) ∧ w'.cell? (ad239.add (x11_3).toNat) = some (.int .i64 (rd t235 x11_3))) (ds := []) #[false, false, false, false, false, false, false, false, false, false, false, false, false, false, false, false, false, false, false, false, false] (by kernel_rfl) rfl rfl ⟨hx238_0, hx239_0⟩ (fun hHeld => ?_); refine with_tabW phaetontop_TopLine.tab12 phaetontop_TopLine.bits12 (fun HT_ HW_ => ?_)
             generalize wr.drew = w71 at HO_6 HO_8 HO_9 HO_10 HO_210004 HO_211004 BK209 BK210 HR230_4 HR234_4 HB hx238_0 hx239_0 hHeld ⊢
             refine pure_ (i := 0) (N := some 81) (v := ?_) (a' := ?_) (HW.tf 1 20) rfl rfl (any_of HT_.out (by kernel_rfl)) (fun _ _ _ h => h) (Or.inl ⟨by rfl, ?_⟩) ?_ ?_
             rotate_left
             ·intro w'
              go_simp
              with_reducible rfl
             rotate_left
             ·simp only [Act.put, HW.LA, HW.LZ, HW.LS, i64_w, i32_w]
              rfl
             refine pure_ (i := 1) (N := some 82) (v := ?_) (a' := ?_) (HW.tf 2 19) rfl rfl (any_of HT_.out (by kernel_rfl)) (fun _ _ _ h => h) (Or.inl ⟨by rfl, ?_⟩) ?_ ?_
             rotate_left
             ·intro w'
              go_simp
              with_reducible rfl
             rotate_left
             ·simp only [Act.put, HW.LA, HW.LZ, HW.LS, i64_w, i32_w]
              rfl
             refine pure_ (i := 2) (N := some 83) (v := ?_) (a' := ?_) (HW.tf 3 18) rfl rfl (any_of HT_.out (by kernel_rfl)) (fun _ _ _ h => h) (Or.inl ⟨by rfl, ?_⟩) ?_ ?_
             rotate_left
             ·intro w'
              go_simp
              with_reducible rfl
             rotate_left
             ·simp only [Act.put, HW.LA, HW.LZ, HW.LS, i64_w, i32_w]
              rfl
             refine pure_ (i := 3) (N := some 84) (v := ?_) (a' := ?_) (HW.tf 4 17) rfl rfl (any_of HT_.out (by kernel_rfl)) (fun _ _ _ h => h) (Or.inl ⟨by rfl, ?_⟩) ?_ ?_
             rotate_left
             ·intro w'
              go_simp
              with_reducible rfl
             rotate_left
             ·simp only [Act.put, HW.LA, HW.LZ, HW.LS, i64_w, i32_w]
              rfl
             refine pure_ (i := 4) (N := some 85) (v := ?_) (a' := ?_) (HW.tf 5 16) rfl rfl (any_of HT_.out (by kernel_rfl)) (fun _ _ _ h => h) (Or.inl ⟨by rfl, ?_⟩) ?_ ?_
             rotate_left
             ·intro w'
              go_simp
              with_reducible rfl
             rotate_left
             ·simp only [Act.put, HW.LA, HW.LZ, HW.LS, i64_w, i32_w]
              rfl
             refine pure_ (i := 5) (N := some 86) (v := ?_) (a' := ?_) (HW.tf 6 15) rfl rfl (any_of HT_.out (by kernel_rfl)) (fun _ _ _ h => h) (Or.inl ⟨by rfl, ?_⟩) ?_ ?_
             rotate_left
             ·intro w'
              go_simp
              with_reducible rfl
             rotate_left
             ·simp only [Act.put, HW.LA, HW.LZ, HW.LS, i64_w, i32_w]
              rfl
             refine pure_ (i := 6) (N := some 87) (v := ?_) (a' := ?_) (HW.tf 7 14) rfl rfl (any_of HT_.out (by kernel_rfl)) (fun _ _ _ h => h) (Or.inl ⟨by rfl, ?_⟩) ?_ ?_
             rotate_left
             ·intro w'
              go_simp
              with_reducible rfl
             rotate_left
             ·simp only [Act.put, HW.LA, HW.LZ, HW.LS, i64_w, i32_w]
              rfl
             refine pure_ (i := 7) (N := some 88) (v := ?_) (a' := ?_) (HW.tf 8 13) rfl rfl (any_of HT_.out (by kernel_rfl)) (fun _ _ _ h => h) (Or.inl ⟨by rfl, ?_⟩) ?_ ?_
             rotate_left
             ·intro w'
              go_simp
              with_reducible rfl
             rotate_left
             ·simp only [Act.put, HW.LA, HW.LZ, HW.LS, i64_w, i32_w]
              rfl
             refine pure_ (i := 8) (N := some 89) (v := ?_) (a' := ?_) (HW.tf 9 12) rfl rfl (any_of HT_.out (by kernel_rfl)) (fun _ _ _ h => h) (Or.inl ⟨by rfl, ?_⟩) ?_ ?_
             rotate_left
             ·intro w'
              go_simp
              with_reducible rfl
             rotate_left
             ·simp only [Act.put, HW.LA, HW.LZ, HW.LS, i64_w, i32_w]
              rfl
             refine pure_ (i := 9) (N := some 90) (v := ?_) (a' := ?_) (HW.tf 10 11) rfl rfl (any_of HT_.out (by kernel_rfl)) (fun _ _ _ h => h) (Or.inl ⟨by rfl, ?_⟩) ?_ ?_
             rotate_left
             ·intro w'
              go_simp
              with_reducible rfl
             rotate_left
             ·simp only [Act.put, HW.LA, HW.LZ, HW.LS, i64_w, i32_w]
              rfl
             refine pure_ (i := 10) (N := some 91) (v := ?_) (a' := ?_) (HW.tf 11 10) rfl rfl (any_of HT_.out (by kernel_rfl)) (fun _ _ _ h => h) (Or.inl ⟨by rfl, ?_⟩) ?_ ?_
             rotate_left
             ·intro w'
              go_simp
              with_reducible rfl
             rotate_left
             ·simp only [Act.put, HW.LA, HW.LZ, HW.LS, i64_w, i32_w]
              rfl
             refine pure_ (i := 11) (N := some 92) (v := ?_) (a' := ?_) (HW.tf 12 9) rfl rfl (any_of HT_.out (by kernel_rfl)) (fun _ _ _ h => h) (Or.inl ⟨by rfl, ?_⟩) ?_ ?_
             rotate_left
             ·intro w'
              go_simp
              with_reducible rfl
             rotate_left
             ·simp only [Act.put, HW.LA, HW.LZ, HW.LS, i64_w, i32_w]
              rfl
             refine pure_ (i := 12) (N := some 93) (v := ?_) (a' := ?_) (HW.tf 13 8) rfl rfl (any_of HT_.out (by kernel_rfl)) (fun _ _ _ h => h) (Or.inl ⟨by rfl, ?_⟩) ?_ ?_
             rotate_left
             ·intro w'
              go_simp
              with_reducible rfl
             rotate_left
             ·simp only [Act.put, HW.LA, HW.LZ, HW.LS, i64_w, i32_w]
              rfl
             refine pure_ (i := 13) (N := some 94) (v := ?_) (a' := ?_) (HW.tf 14 7) rfl rfl (any_of HT_.out (by kernel_rfl)) (fun _ _ _ h => h) (Or.inl ⟨by rfl, ?_⟩) ?_ ?_
             rotate_left
             ·intro w'
              go_simp
              with_reducible rfl
             rotate_left
             ·simp only [Act.put, HW.LA, HW.LZ, HW.LS, i64_w, i32_w]
              rfl
             refine pure_ (i := 15) (N := some 96) (v := ?_) (a' := ?_) #[true, true, true, true, true, true, true, true, true, true, true, true, true, true, false, true, false, false, false, false, false] rfl rfl (any_of HT_.out (by kernel_rfl)) (fun _ _ _ h => h) (Or.inl ⟨by rfl, ?_⟩) ?_ ?_
             rotate_left
             ·intro w'
              go_simp
              with_reducible rfl
             rotate_left
             ·simp only [Act.put, HW.LA, HW.LZ, HW.LS, i64_w, i32_w]
              rfl
             refine pure_ (i := 16) (N := some 97) (v := ?_) (a' := ?_) #[true, true, true, true, true, true, true, true, true, true, true, true, true, true, false, true, true, false, false, false, false] rfl rfl (any_of HT_.out (by kernel_rfl)) (fun _ _ _ h => h) (Or.inl ⟨by rfl, ?_⟩) ?_ ?_
             rotate_left
             ·intro w'
              go_simp
              with_reducible rfl
             rotate_left
             ·simp only [Act.put, HW.LA, HW.LZ, HW.LS, i64_w, i32_w]
              rfl
             refine pure_ (i := 17) (N := some 98) (v := ?_) (a' := ?_) #[true, true, true, true, true, true, true, true, true, true, true, true, true, true, false, true, true, true, false, false, false] rfl rfl (any_of HT_.out (by kernel_rfl)) (fun _ _ _ h => h) (Or.inl ⟨by rfl, ?_⟩) ?_ ?_
             rotate_left
             ·intro w'
              go_simp
              with_reducible rfl
             rotate_left
             ·simp only [Act.put, HW.LA, HW.LZ, HW.LS, i64_w, i32_w]
              rfl
             refine take_ (i := 14) (N := some 95) (v := ?_) (a' := ?_) (HW.tf 18 3) rfl rfl (take_ofW HT_.out HW_.out (by kernel_rfl)) (fun _ _ _ h => h) (Or.inl ⟨by rfl, ?_⟩) hHeld ?_ ?_
             rotate_left
             ·rintro w' ⟨s0, s1⟩
              go_simp
              with_reducible rfl
             rotate_left
             ·simp only [Act.put, HW.LA, HW.LZ, HW.LS, i64_w, i32_w]
              rfl
             refine take_ (i := 18) (N := some 99) (v := ?_) (a' := ?_) (HW.tf 19 2) rfl rfl (take_ofW HT_.out HW_.out (by kernel_rfl)) (fun _ _ _ h => h) (Or.inl ⟨by rfl, ?_⟩) hHeld ?_ ?_
             rotate_left
             ·rintro w' ⟨s0, s1⟩
              go_simp
              with_reducible rfl
             rotate_left
             ·simp only [Act.put, HW.LA, HW.LZ, HW.LS, i64_w, i32_w]
              rfl
             refine pure_ (i := 19) (N := some 100) (v := ?_) (a' := ?_) (HW.tf 20 1) rfl rfl (any_of HT_.out (by kernel_rfl)) (fun _ _ _ h => h) (Or.inl ⟨by rfl, ?_⟩) ?_ ?_
             rotate_left
             ·intro w'
              go_simp
              with_reducible rfl
             rotate_left
             ·simp only [Act.put, HW.LA, HW.LZ, HW.LS, i64_w, i32_w]
              rfl
             refine pure_ (i := 20) (N := some 101) (v := ?_) (a' := ?_) (HW.tf 21 0) rfl rfl (any_of HT_.out (by kernel_rfl)) (fun _ _ _ h => h) (Or.inl ⟨by rfl, ?_⟩) ?_ ?_
             rotate_left
             ·intro w'
              go_simp
              with_reducible rfl
             rotate_left
             ·simp only [Act.put, HW.LA, HW.LZ, HW.LS, i64_w, i32_w]
              rfl
             refine done_ (done_of HT_.out (by kernel_rfl)) ?_
             try go_wp2
             go_roundg k3
             case measure => have := HJ3.out; have := HJ34.out; have := HK3.out; omega
             case rel => exact ⟨(wrap64 (x11_3 + 1)), (by first | rfl | (simp; done) | (simp [*]; done)), H', ⟨by have := HJ3.out; have := HJ34.out; have := HK3.out; omega⟩, ⟨by (with_reducible repeat (first | apply Kd.N_alloc | apply Kd.N_drewN | apply Kd.N_drew)); exact HO_6.out⟩, ⟨by (with_reducible repeat (first | apply Kd.R_alloc | apply Kd.R_drewN | apply Kd.R_drew)); exact HO_8.out⟩, ⟨by (with_reducible repeat (first | apply Kd.R_alloc | apply Kd.R_drewN | apply Kd.R_drew)); exact HO_9.out⟩, ⟨by (with_reducible repeat (first | apply Kd.R_alloc | apply Kd.R_drewN | apply Kd.R_drew)); exact HO_10.out⟩, ⟨by (with_reducible repeat (first | apply Kd.V_alloc | apply Kd.V_drewN | apply Kd.V_drew)); exact HO_210004.out⟩, ⟨by (with_reducible repeat (first | apply Kd.V_alloc | apply Kd.V_drewN | apply Kd.V_drew)); exact HO_211004.out⟩, ⟨by (with_reducible repeat (first | refine blk_drewN ?_ _ | refine blk_drew ?_ | refine blk_alloc ?_ _)); exact BK209.out⟩, ⟨by (with_reducible repeat (first | refine blk_drewN ?_ _ | refine blk_drew ?_ | refine blk_alloc ?_ _)); exact BK210.out⟩, ⟨by repeat (first | (with_reducible exact HR230_4.out) | (with_reducible refine Kd.C_alloc ?_ _) | (with_reducible refine Kd.C_drewN ?_ _) | (with_reducible refine Kd.C_drew ?_) | exact HR230_4.out)⟩, ⟨by repeat (first | (with_reducible exact HR234_4.out) | (with_reducible refine Kd.C_alloc ?_ _) | (with_reducible refine Kd.C_drewN ?_ _) | (with_reducible refine Kd.C_drew ?_) | exact HR234_4.out)⟩, ⟨by repeat (first | (with_reducible first | exact HB.out | apply below_alloc | apply pw_below_drewN | apply below_drew1 | refine below_set ?_ GE209.out | refine below_set ?_ GE210.out) | exact HB.out)⟩⟩
            ·rw [if_neg c70] at H
             have c70b0 : ((rd t231 x11_3) == (rd t235 x11_3)) = false := beq_eq_false_iff_ne.mpr c70
             have c70b1 : ((rd t231 x11_3) != (rd t235 x11_3)) = true := bne_iff_ne.mpr c70
             have H' := Aside0.mk H
             clear H
             try go_wp2
             have n0_ := Aside0.mk (Kd.N_drew HO_6.out)
             have n1_ := Aside0.mk (Kd.R_drew HO_8.out)
             have n2_ := Aside0.mk (Kd.R_drew HO_9.out)
             have n3_ := Aside0.mk (Kd.R_drew HO_10.out)
             have n4_ := Aside0.mk (Kd.V_drew HO_210004.out)
             have n5_ := Aside0.mk (Kd.V_drew HO_211004.out)
             have n6_ := Aside0.mk (blk_drew BK209.out)
             have n7_ := Aside0.mk (blk_drew BK210.out)
             have n8_ := Aside0.mk (Kd.C_drew HR230_4.out)
             have n9_ := Aside0.mk (Kd.C_drew HR234_4.out)
             have n10_ := Aside0.mk (below_drew1 HB.out)
             clear HO_6
             clear HO_8
             clear HO_9
             clear HO_10
             clear HO_210004
             clear HO_211004
             clear BK209
             clear BK210
             clear HR230_4
             clear HR234_4
             clear HB
             have HO_6 := n0_
             have HO_8 := n1_
             have HO_9 := n2_
             have HO_10 := n3_
             have HO_210004 := n4_
             have HO_211004 := n5_
             have BK209 := n6_
             have BK210 := n7_
             have HR230_4 := n8_
             have HR234_4 := n9_
             have HB := n10_
             clear n0_ n1_ n2_ n3_ n4_ n5_ n6_ n7_ n8_ n9_ n10_
             obtain ⟨Ao75, co75, eo75⟩ := Kd.R_slice HO_9.out
             (first | subst eo75 | (injection eo75 with f1_ f2_ f3_; have f4_ := f1_.symm; have f5_ := f3_.symm; clear f1_ f2_ f3_; subst f4_; subst f5_))
             obtain ⟨Ao76, co76, eo76⟩ := Kd.R_slice HO_10.out
             (first | subst eo76 | (injection eo76 with f1_ f2_ f3_; have f4_ := f1_.symm; have f5_ := f3_.symm; clear f1_ f2_ f3_; subst f4_; subst f5_))
             have p238 : 0 ≤ (x11_3 : Int) := of_decide_eq_true (by first | (with_reducible assumption) | assumption)
             have q238 : x11_3 < (t231.length : Int) := of_decide_eq_true (by first | (with_reducible assumption) | assumption)
             obtain ⟨ad238, e238, hx238_0⟩ := Kd.at_int (Kd.R_reads' HO_9.out).2.2 x11_3 p238 q238
             cases e238
             replace p238 := eq_true p238
             replace q238 := eq_true q238
             have p239 : 0 ≤ (x11_3 : Int) := of_decide_eq_true (by first | (with_reducible assumption) | assumption)
             have q239 : x11_3 < (t235.length : Int) := of_decide_eq_true (by first | (with_reducible assumption) | assumption)
             obtain ⟨ad239, e239, hx239_0⟩ := Kd.at_int (Kd.R_reads' HO_10.out).2.2 x11_3 p239 q239
             cases e239
             replace p239 := eq_true p239
             replace q239 := eq_true q239
             refine start_ (n := 21) (S := fun w' => w'.cell? (ad238.add (x11_3).toNat) = some (.int .i64 (rd t231 x11_3)) ∧ w'.cell? (ad239.add (x11_3).toNat) = some (.int .i64 (rd t235 x11_3))) (ds := []) #[false, false, false, false, false, false, false, false, false, false, false, false, false, false, false, false, false, false, false, false, false] (by kernel_rfl) rfl rfl ⟨hx238_0, hx239_0⟩ (fun hHeld => ?_); refine with_tabW phaetontop_TopLine.tab12 phaetontop_TopLine.bits12 (fun HT_ HW_ => ?_)
             generalize wr.drew = w74 at HO_6 HO_8 HO_9 HO_10 HO_210004 HO_211004 BK209 BK210 HR230_4 HR234_4 HB hx238_0 hx239_0 hHeld ⊢
             refine pure_ (i := 0) (N := some 81) (v := ?_) (a' := ?_) (HW.tf 1 20) rfl rfl (any_of HT_.out (by kernel_rfl)) (fun _ _ _ h => h) (Or.inl ⟨by rfl, ?_⟩) ?_ ?_
             rotate_left
             ·intro w'
              go_simp
              with_reducible rfl
             rotate_left
             ·simp only [Act.put, HW.LA, HW.LZ, HW.LS, i64_w, i32_w]
              rfl
             refine pure_ (i := 1) (N := some 82) (v := ?_) (a' := ?_) (HW.tf 2 19) rfl rfl (any_of HT_.out (by kernel_rfl)) (fun _ _ _ h => h) (Or.inl ⟨by rfl, ?_⟩) ?_ ?_
             rotate_left
             ·intro w'
              go_simp
              with_reducible rfl
             rotate_left
             ·simp only [Act.put, HW.LA, HW.LZ, HW.LS, i64_w, i32_w]
              rfl
             refine pure_ (i := 2) (N := some 83) (v := ?_) (a' := ?_) (HW.tf 3 18) rfl rfl (any_of HT_.out (by kernel_rfl)) (fun _ _ _ h => h) (Or.inl ⟨by rfl, ?_⟩) ?_ ?_
             rotate_left
             ·intro w'
              go_simp
              with_reducible rfl
             rotate_left
             ·simp only [Act.put, HW.LA, HW.LZ, HW.LS, i64_w, i32_w]
              rfl
             refine pure_ (i := 3) (N := some 84) (v := ?_) (a' := ?_) (HW.tf 4 17) rfl rfl (any_of HT_.out (by kernel_rfl)) (fun _ _ _ h => h) (Or.inl ⟨by rfl, ?_⟩) ?_ ?_
             rotate_left
             ·intro w'
              go_simp
              with_reducible rfl
             rotate_left
             ·simp only [Act.put, HW.LA, HW.LZ, HW.LS, i64_w, i32_w]
              rfl
             refine pure_ (i := 4) (N := some 85) (v := ?_) (a' := ?_) (HW.tf 5 16) rfl rfl (any_of HT_.out (by kernel_rfl)) (fun _ _ _ h => h) (Or.inl ⟨by rfl, ?_⟩) ?_ ?_
             rotate_left
             ·intro w'
              go_simp
              with_reducible rfl
             rotate_left
             ·simp only [Act.put, HW.LA, HW.LZ, HW.LS, i64_w, i32_w]
              rfl
             refine pure_ (i := 5) (N := some 86) (v := ?_) (a' := ?_) (HW.tf 6 15) rfl rfl (any_of HT_.out (by kernel_rfl)) (fun _ _ _ h => h) (Or.inl ⟨by rfl, ?_⟩) ?_ ?_
             rotate_left
             ·intro w'
              go_simp
              with_reducible rfl
             rotate_left
             ·simp only [Act.put, HW.LA, HW.LZ, HW.LS, i64_w, i32_w]
              rfl
             refine pure_ (i := 6) (N := some 87) (v := ?_) (a' := ?_) (HW.tf 7 14) rfl rfl (any_of HT_.out (by kernel_rfl)) (fun _ _ _ h => h) (Or.inl ⟨by rfl, ?_⟩) ?_ ?_
             rotate_left
             ·intro w'
              go_simp
              with_reducible rfl
             rotate_left
             ·simp only [Act.put, HW.LA, HW.LZ, HW.LS, i64_w, i32_w]
              rfl
             refine pure_ (i := 7) (N := some 88) (v := ?_) (a' := ?_) (HW.tf 8 13) rfl rfl (any_of HT_.out (by kernel_rfl)) (fun _ _ _ h => h) (Or.inl ⟨by rfl, ?_⟩) ?_ ?_
             rotate_left
             ·intro w'
              go_simp
              with_reducible rfl
             rotate_left
             ·simp only [Act.put, HW.LA, HW.LZ, HW.LS, i64_w, i32_w]
              rfl
             refine pure_ (i := 8) (N := some 89) (v := ?_) (a' := ?_) (HW.tf 9 12) rfl rfl (any_of HT_.out (by kernel_rfl)) (fun _ _ _ h => h) (Or.inl ⟨by rfl, ?_⟩) ?_ ?_
             rotate_left
             ·intro w'
              go_simp
              with_reducible rfl
             rotate_left
             ·simp only [Act.put, HW.LA, HW.LZ, HW.LS, i64_w, i32_w]
              rfl
             refine pure_ (i := 9) (N := some 90) (v := ?_) (a' := ?_) (HW.tf 10 11) rfl rfl (any_of HT_.out (by kernel_rfl)) (fun _ _ _ h => h) (Or.inl ⟨by rfl, ?_⟩) ?_ ?_
             rotate_left
             ·intro w'
              go_simp
              with_reducible rfl
             rotate_left
             ·simp only [Act.put, HW.LA, HW.LZ, HW.LS, i64_w, i32_w]
              rfl
             refine pure_ (i := 10) (N := some 91) (v := ?_) (a' := ?_) (HW.tf 11 10) rfl rfl (any_of HT_.out (by kernel_rfl)) (fun _ _ _ h => h) (Or.inl ⟨by rfl, ?_⟩) ?_ ?_
             rotate_left
             ·intro w'
              go_simp
              with_reducible rfl
             rotate_left
             ·simp only [Act.put, HW.LA, HW.LZ, HW.LS, i64_w, i32_w]
              rfl
             refine pure_ (i := 11) (N := some 92) (v := ?_) (a' := ?_) (HW.tf 12 9) rfl rfl (any_of HT_.out (by kernel_rfl)) (fun _ _ _ h => h) (Or.inl ⟨by rfl, ?_⟩) ?_ ?_
             rotate_left
             ·intro w'
              go_simp
              with_reducible rfl
             rotate_left
             ·simp only [Act.put, HW.LA, HW.LZ, HW.LS, i64_w, i32_w]
              rfl
             refine pure_ (i := 12) (N := some 93) (v := ?_) (a' := ?_) (HW.tf 13 8) rfl rfl (any_of HT_.out (by kernel_rfl)) (fun _ _ _ h => h) (Or.inl ⟨by rfl, ?_⟩) ?_ ?_
             rotate_left
             ·intro w'
              go_simp
              with_reducible rfl
             rotate_left
             ·simp only [Act.put, HW.LA, HW.LZ, HW.LS, i64_w, i32_w]
              rfl
             refine pure_ (i := 13) (N := some 94) (v := ?_) (a' := ?_) (HW.tf 14 7) rfl rfl (any_of HT_.out (by kernel_rfl)) (fun _ _ _ h => h) (Or.inl ⟨by rfl, ?_⟩) ?_ ?_
             rotate_left
             ·intro w'
              go_simp
              with_reducible rfl
             rotate_left
             ·simp only [Act.put, HW.LA, HW.LZ, HW.LS, i64_w, i32_w]
              rfl
             refine pure_ (i := 15) (N := some 96) (v := ?_) (a' := ?_) #[true, true, true, true, true, true, true, true, true, true, true, true, true, true, false, true, false, false, false, false, false] rfl rfl (any_of HT_.out (by kernel_rfl)) (fun _ _ _ h => h) (Or.inl ⟨by rfl, ?_⟩) ?_ ?_
             rotate_left
             ·intro w'
              go_simp
              with_reducible rfl
             rotate_left
             ·simp only [Act.put, HW.LA, HW.LZ, HW.LS, i64_w, i32_w]
              rfl
             refine pure_ (i := 16) (N := some 97) (v := ?_) (a' := ?_) #[true, true, true, true, true, true, true, true, true, true, true, true, true, true, false, true, true, false, false, false, false] rfl rfl (any_of HT_.out (by kernel_rfl)) (fun _ _ _ h => h) (Or.inl ⟨by rfl, ?_⟩) ?_ ?_
             rotate_left
             ·intro w'
              go_simp
              with_reducible rfl
             rotate_left
             ·simp only [Act.put, HW.LA, HW.LZ, HW.LS, i64_w, i32_w]
              rfl
             refine pure_ (i := 17) (N := some 98) (v := ?_) (a' := ?_) #[true, true, true, true, true, true, true, true, true, true, true, true, true, true, false, true, true, true, false, false, false] rfl rfl (any_of HT_.out (by kernel_rfl)) (fun _ _ _ h => h) (Or.inl ⟨by rfl, ?_⟩) ?_ ?_
             rotate_left
             ·intro w'
              go_simp
              with_reducible rfl
             rotate_left
             ·simp only [Act.put, HW.LA, HW.LZ, HW.LS, i64_w, i32_w]
              rfl
             refine take_ (i := 14) (N := some 95) (v := ?_) (a' := ?_) (HW.tf 18 3) rfl rfl (take_ofW HT_.out HW_.out (by kernel_rfl)) (fun _ _ _ h => h) (Or.inl ⟨by rfl, ?_⟩) hHeld ?_ ?_
             rotate_left
             ·rintro w' ⟨s0, s1⟩
              go_simp
              with_reducible rfl
             rotate_left
             ·simp only [Act.put, HW.LA, HW.LZ, HW.LS, i64_w, i32_w]
              rfl
             refine take_ (i := 18) (N := some 99) (v := ?_) (a' := ?_) (HW.tf 19 2) rfl rfl (take_ofW HT_.out HW_.out (by kernel_rfl)) (fun _ _ _ h => h) (Or.inl ⟨by rfl, ?_⟩) hHeld ?_ ?_
             rotate_left
             ·rintro w' ⟨s0, s1⟩
              go_simp
              with_reducible rfl
             rotate_left
             ·simp only [Act.put, HW.LA, HW.LZ, HW.LS, i64_w, i32_w]
              rfl
             refine pure_ (i := 19) (N := some 100) (v := ?_) (a' := ?_) (HW.tf 20 1) rfl rfl (any_of HT_.out (by kernel_rfl)) (fun _ _ _ h => h) (Or.inl ⟨by rfl, ?_⟩) ?_ ?_
             rotate_left
             ·intro w'
              go_simp
              with_reducible rfl
             rotate_left
             ·simp only [Act.put, HW.LA, HW.LZ, HW.LS, i64_w, i32_w]
              rfl
             refine pure_ (i := 20) (N := some 101) (v := ?_) (a' := ?_) (HW.tf 21 0) rfl rfl (any_of HT_.out (by kernel_rfl)) (fun _ _ _ h => h) (Or.inl ⟨by rfl, ?_⟩) ?_ ?_
             rotate_left
             ·intro w'
              go_simp
              with_reducible rfl
             rotate_left
             ·simp only [Act.put, HW.LA, HW.LZ, HW.LS, i64_w, i32_w]
              rfl
             refine done_ (done_of HT_.out (by kernel_rfl)) ?_
             try go_wp2
             go_meet
             case rel => exact ⟨_, (x11_3), (by first | rfl | (simp; done) | (simp [*]; done)), H', ⟨by have := HJ3.out; have := HJ34.out; have := HK3.out; first | omega | exact Nat.le_refl _⟩, ⟨by (with_reducible repeat (first | apply Kd.N_alloc | apply Kd.N_drewN | apply Kd.N_drew)); exact HO_6.out⟩, ⟨by (with_reducible repeat (first | apply Kd.R_alloc | apply Kd.R_drewN | apply Kd.R_drew)); exact HO_8.out⟩, ⟨by (with_reducible repeat (first | apply Kd.R_alloc | apply Kd.R_drewN | apply Kd.R_drew)); exact HO_9.out⟩, ⟨by (with_reducible repeat (first | apply Kd.R_alloc | apply Kd.R_drewN | apply Kd.R_drew)); exact HO_10.out⟩, ⟨by (with_reducible repeat (first | apply Kd.V_alloc | apply Kd.V_drewN | apply Kd.V_drew)); exact HO_210004.out⟩, ⟨by (with_reducible repeat (first | apply Kd.V_alloc | apply Kd.V_drewN | apply Kd.V_drew)); exact HO_211004.out⟩, ⟨by (with_reducible repeat (first | refine blk_drewN ?_ _ | refine blk_drew ?_ | refine blk_alloc ?_ _)); exact BK209.out⟩, ⟨by (with_reducible repeat (first | refine blk_drewN ?_ _ | refine blk_drew ?_ | refine blk_alloc ?_ _)); exact BK210.out⟩, ⟨by repeat (first | (with_reducible exact HR230_4.out) | (with_reducible refine Kd.C_alloc ?_ _) | (with_reducible refine Kd.C_drewN ?_ _) | (with_reducible refine Kd.C_drew ?_) | exact HR230_4.out)⟩, ⟨by repeat (first | (with_reducible exact HR234_4.out) | (with_reducible refine Kd.C_alloc ?_ _) | (with_reducible refine Kd.C_drewN ?_ _) | (with_reducible refine Kd.C_drew ?_) | exact HR234_4.out)⟩, ⟨by repeat (first | (with_reducible first | exact HB.out | apply below_alloc | apply pw_below_drewN | apply below_drew1 | refine below_set ?_ GE209.out | refine below_set ?_ GE210.out) | exact HB.out)⟩⟩
           ·rw [if_neg c68] at H
            have c68b0 : decide (x11_3 < (t235.length : Int)) = false := decide_eq_false c68
            clear c68
            have H' := Aside0.mk H
            clear H
            try go_wp2
            have n0_ := Aside0.mk (Kd.N_drew HO_6.out)
            have n1_ := Aside0.mk (Kd.R_drew HO_8.out)
            have n2_ := Aside0.mk (Kd.R_drew HO_9.out)
            have n3_ := Aside0.mk (Kd.R_drew HO_10.out)
            have n4_ := Aside0.mk (Kd.V_drew HO_210004.out)
            have n5_ := Aside0.mk (Kd.V_drew HO_211004.out)
            have n6_ := Aside0.mk (blk_drew BK209.out)
            have n7_ := Aside0.mk (blk_drew BK210.out)
            have n8_ := Aside0.mk (Kd.C_drew HR230_4.out)
            have n9_ := Aside0.mk (Kd.C_drew HR234_4.out)
            have n10_ := Aside0.mk (below_drew1 HB.out)
            clear HO_6
            clear HO_8
            clear HO_9
            clear HO_10
            clear HO_210004
            clear HO_211004
            clear BK209
            clear BK210
            clear HR230_4
            clear HR234_4
            clear HB
            have HO_6 := n0_
            have HO_8 := n1_
            have HO_9 := n2_
            have HO_10 := n3_
            have HO_210004 := n4_
            have HO_211004 := n5_
            have BK209 := n6_
            have BK210 := n7_
            have HR230_4 := n8_
            have HR234_4 := n9_
            have HB := n10_
            clear n0_ n1_ n2_ n3_ n4_ n5_ n6_ n7_ n8_ n9_ n10_
            obtain ⟨Ao78, co78, eo78⟩ := Kd.R_slice HO_9.out
            (first | subst eo78 | (injection eo78 with f1_ f2_ f3_; have f4_ := f1_.symm; have f5_ := f3_.symm; clear f1_ f2_ f3_; subst f4_; subst f5_))
            obtain ⟨Ao79, co79, eo79⟩ := Kd.R_slice HO_10.out
            (first | subst eo79 | (injection eo79 with f1_ f2_ f3_; have f4_ := f1_.symm; have f5_ := f3_.symm; clear f1_ f2_ f3_; subst f4_; subst f5_))
            refine start_ (n := 21) (S := fun w' => True) (ds := []) #[false, false, false, false, false, false, false, false, false, false, false, false, false, false, false, false, false, false, false, false, false] (by kernel_rfl) rfl rfl trivial (fun hHeld => ?_); refine with_tabW phaetontop_TopLine.tab12 phaetontop_TopLine.bits12 (fun HT_ HW_ => ?_)
            generalize wr.drew = w77 at HO_6 HO_8 HO_9 HO_10 HO_210004 HO_211004 BK209 BK210 HR230_4 HR234_4 HB hHeld ⊢
            refine pure_ (i := 0) (N := some 81) (v := ?_) (a' := ?_) (HW.tf 1 20) rfl rfl (any_of HT_.out (by kernel_rfl)) (fun _ _ _ h => h) (Or.inl ⟨by rfl, ?_⟩) ?_ ?_
            rotate_left
            ·intro w'
             go_simp
             with_reducible rfl
            rotate_left
            ·simp only [Act.put, HW.LA, HW.LZ, HW.LS, i64_w, i32_w]
             rfl
            refine pure_ (i := 1) (N := some 82) (v := ?_) (a' := ?_) (HW.tf 2 19) rfl rfl (any_of HT_.out (by kernel_rfl)) (fun _ _ _ h => h) (Or.inl ⟨by rfl, ?_⟩) ?_ ?_
            rotate_left
            ·intro w'
             go_simp
             with_reducible rfl
            rotate_left
            ·simp only [Act.put, HW.LA, HW.LZ, HW.LS, i64_w, i32_w]
             rfl
            refine pure_ (i := 2) (N := some 83) (v := ?_) (a' := ?_) (HW.tf 3 18) rfl rfl (any_of HT_.out (by kernel_rfl)) (fun _ _ _ h => h) (Or.inl ⟨by rfl, ?_⟩) ?_ ?_
            rotate_left
            ·intro w'
             go_simp
             with_reducible rfl
            rotate_left
            ·simp only [Act.put, HW.LA, HW.LZ, HW.LS, i64_w, i32_w]
             rfl
            refine pure_ (i := 3) (N := some 84) (v := ?_) (a' := ?_) (HW.tf 4 17) rfl rfl (any_of HT_.out (by kernel_rfl)) (fun _ _ _ h => h) (Or.inl ⟨by rfl, ?_⟩) ?_ ?_
            rotate_left
            ·intro w'
             go_simp
             with_reducible rfl
            rotate_left
            ·simp only [Act.put, HW.LA, HW.LZ, HW.LS, i64_w, i32_w]
             rfl
            refine pure_ (i := 4) (N := some 85) (v := ?_) (a' := ?_) (HW.tf 5 16) rfl rfl (any_of HT_.out (by kernel_rfl)) (fun _ _ _ h => h) (Or.inl ⟨by rfl, ?_⟩) ?_ ?_
            rotate_left
            ·intro w'
             go_simp
             with_reducible rfl
            rotate_left
            ·simp only [Act.put, HW.LA, HW.LZ, HW.LS, i64_w, i32_w]
             rfl
            refine pure_ (i := 5) (N := some 86) (v := ?_) (a' := ?_) (HW.tf 6 15) rfl rfl (any_of HT_.out (by kernel_rfl)) (fun _ _ _ h => h) (Or.inl ⟨by rfl, ?_⟩) ?_ ?_
            rotate_left
            ·intro w'
             go_simp
             with_reducible rfl
            rotate_left
            ·simp only [Act.put, HW.LA, HW.LZ, HW.LS, i64_w, i32_w]
             rfl
            refine pure_ (i := 6) (N := some 87) (v := ?_) (a' := ?_) (HW.tf 7 14) rfl rfl (any_of HT_.out (by kernel_rfl)) (fun _ _ _ h => h) (Or.inl ⟨by rfl, ?_⟩) ?_ ?_
            rotate_left
            ·intro w'
             go_simp
             with_reducible rfl
            rotate_left
            ·simp only [Act.put, HW.LA, HW.LZ, HW.LS, i64_w, i32_w]
             rfl
            refine pure_ (i := 7) (N := some 88) (v := ?_) (a' := ?_) (HW.tf 8 13) rfl rfl (any_of HT_.out (by kernel_rfl)) (fun _ _ _ h => h) (Or.inl ⟨by rfl, ?_⟩) ?_ ?_
            rotate_left
            ·intro w'
             go_simp
             with_reducible rfl
            rotate_left
            ·simp only [Act.put, HW.LA, HW.LZ, HW.LS, i64_w, i32_w]
             rfl
            refine pure_ (i := 8) (N := some 89) (v := ?_) (a' := ?_) (HW.tf 9 12) rfl rfl (any_of HT_.out (by kernel_rfl)) (fun _ _ _ h => h) (Or.inl ⟨by rfl, ?_⟩) ?_ ?_
            rotate_left
            ·intro w'
             go_simp
             with_reducible rfl
            rotate_left
            ·simp only [Act.put, HW.LA, HW.LZ, HW.LS, i64_w, i32_w]
             rfl
            refine pure_ (i := 9) (N := some 90) (v := ?_) (a' := ?_) (HW.tf 10 11) rfl rfl (any_of HT_.out (by kernel_rfl)) (fun _ _ _ h => h) (Or.inl ⟨by rfl, ?_⟩) ?_ ?_
            rotate_left
            ·intro w'
             go_simp
             with_reducible rfl
            rotate_left
            ·simp only [Act.put, HW.LA, HW.LZ, HW.LS, i64_w, i32_w]
             rfl
            refine pure_ (i := 10) (N := some 91) (v := ?_) (a' := ?_) (HW.tf 11 10) rfl rfl (any_of HT_.out (by kernel_rfl)) (fun _ _ _ h => h) (Or.inl ⟨by rfl, ?_⟩) ?_ ?_
            rotate_left
            ·intro w'
             go_simp
             with_reducible rfl
            rotate_left
            ·simp only [Act.put, HW.LA, HW.LZ, HW.LS, i64_w, i32_w]
             rfl
            refine pure_ (i := 11) (N := some 92) (v := undef) (a' := ?_) (HW.tf 12 9) rfl rfl (any_of HT_.out (by kernel_rfl)) (fun _ _ _ h => h) (Or.inr ⟨by rfl, rfl⟩) ?_ ?_
            rotate_left
            ·simp only [Act.put, HW.LA, HW.LZ, HW.LS, i64_w, i32_w]
             rfl
            refine pure_ (i := 12) (N := some 93) (v := undef) (a' := ?_) (HW.tf 13 8) rfl rfl (any_of HT_.out (by kernel_rfl)) (fun _ _ _ h => h) (Or.inr ⟨by rfl, rfl⟩) ?_ ?_
            rotate_left
            ·simp only [Act.put, HW.LA, HW.LZ, HW.LS, i64_w, i32_w]
             rfl
            refine pure_ (i := 13) (N := some 94) (v := undef) (a' := ?_) (HW.tf 14 7) rfl rfl (any_of HT_.out (by kernel_rfl)) (fun _ _ _ h => h) (Or.inr ⟨by rfl, rfl⟩) ?_ ?_
            rotate_left
            ·simp only [Act.put, HW.LA, HW.LZ, HW.LS, i64_w, i32_w]
             rfl
            refine pure_ (i := 14) (N := some 95) (v := undef) (a' := ?_) (HW.tf 15 6) rfl rfl (any_of HT_.out (by kernel_rfl)) (fun _ _ _ h => h) (Or.inr ⟨by rfl, rfl⟩) ?_ ?_
            rotate_left
            ·simp only [Act.put, HW.LA, HW.LZ, HW.LS, i64_w, i32_w]
             rfl
            refine pure_ (i := 15) (N := some 96) (v := undef) (a' := ?_) (HW.tf 16 5) rfl rfl (any_of HT_.out (by kernel_rfl)) (fun _ _ _ h => h) (Or.inr ⟨by rfl, rfl⟩) ?_ ?_
            rotate_left
            ·simp only [Act.put, HW.LA, HW.LZ, HW.LS, i64_w, i32_w]
             rfl
            refine pure_ (i := 16) (N := some 97) (v := undef) (a' := ?_) (HW.tf 17 4) rfl rfl (any_of HT_.out (by kernel_rfl)) (fun _ _ _ h => h) (Or.inr ⟨by rfl, rfl⟩) ?_ ?_
            rotate_left
            ·simp only [Act.put, HW.LA, HW.LZ, HW.LS, i64_w, i32_w]
             rfl
            refine pure_ (i := 17) (N := some 98) (v := undef) (a' := ?_) (HW.tf 18 3) rfl rfl (any_of HT_.out (by kernel_rfl)) (fun _ _ _ h => h) (Or.inr ⟨by rfl, rfl⟩) ?_ ?_
            rotate_left
            ·simp only [Act.put, HW.LA, HW.LZ, HW.LS, i64_w, i32_w]
             rfl
            refine pure_ (i := 18) (N := some 99) (v := undef) (a' := ?_) (HW.tf 19 2) rfl rfl (any_of HT_.out (by kernel_rfl)) (fun _ _ _ h => h) (Or.inr ⟨by rfl, rfl⟩) ?_ ?_
            rotate_left
            ·simp only [Act.put, HW.LA, HW.LZ, HW.LS, i64_w, i32_w]
             rfl
            refine pure_ (i := 19) (N := some 100) (v := undef) (a' := ?_) (HW.tf 20 1) rfl rfl (any_of HT_.out (by kernel_rfl)) (fun _ _ _ h => h) (Or.inr ⟨by rfl, rfl⟩) ?_ ?_
            rotate_left
            ·simp only [Act.put, HW.LA, HW.LZ, HW.LS, i64_w, i32_w]
             rfl
            refine pure_ (i := 20) (N := some 101) (v := ?_) (a' := ?_) (HW.tf 21 0) rfl rfl (any_of HT_.out (by kernel_rfl)) (fun _ _ _ h => h) (Or.inl ⟨by rfl, ?_⟩) ?_ ?_
            rotate_left
            ·intro w'
             go_simp
             with_reducible rfl
            rotate_left
            ·simp only [Act.put, HW.LA, HW.LZ, HW.LS, i64_w, i32_w]
             rfl
            refine done_ (done_of HT_.out (by kernel_rfl)) ?_
            try go_wp2
            go_meet
            case rel => exact ⟨_, (x11_3), (by first | rfl | (simp; done) | (simp [*]; done)), H', ⟨by have := HJ3.out; have := HJ34.out; have := HK3.out; first | omega | exact Nat.le_refl _⟩, ⟨by (with_reducible repeat (first | apply Kd.N_alloc | apply Kd.N_drewN | apply Kd.N_drew)); exact HO_6.out⟩, ⟨by (with_reducible repeat (first | apply Kd.R_alloc | apply Kd.R_drewN | apply Kd.R_drew)); exact HO_8.out⟩, ⟨by (with_reducible repeat (first | apply Kd.R_alloc | apply Kd.R_drewN | apply Kd.R_drew)); exact HO_9.out⟩, ⟨by (with_reducible repeat (first | apply Kd.R_alloc | apply Kd.R_drewN | apply Kd.R_drew)); exact HO_10.out⟩, ⟨by (with_reducible repeat (first | apply Kd.V_alloc | apply Kd.V_drewN | apply Kd.V_drew)); exact HO_210004.out⟩, ⟨by (with_reducible repeat (first | apply Kd.V_alloc | apply Kd.V_drewN | apply Kd.V_drew)); exact HO_211004.out⟩, ⟨by (with_reducible repeat (first | refine blk_drewN ?_ _ | refine blk_drew ?_ | refine blk_alloc ?_ _)); exact BK209.out⟩, ⟨by (with_reducible repeat (first | refine blk_drewN ?_ _ | refine blk_drew ?_ | refine blk_alloc ?_ _)); exact BK210.out⟩, ⟨by repeat (first | (with_reducible exact HR230_4.out) | (with_reducible refine Kd.C_alloc ?_ _) | (with_reducible refine Kd.C_drewN ?_ _) | (with_reducible refine Kd.C_drew ?_) | exact HR230_4.out)⟩, ⟨by repeat (first | (with_reducible exact HR234_4.out) | (with_reducible refine Kd.C_alloc ?_ _) | (with_reducible refine Kd.C_drewN ?_ _) | (with_reducible refine Kd.C_drew ?_) | exact HR234_4.out)⟩, ⟨by repeat (first | (with_reducible first | exact HB.out | apply below_alloc | apply pw_below_drewN | apply below_drew1 | refine below_set ?_ GE209.out | refine below_set ?_ GE210.out) | exact HB.out)⟩⟩
          ·rw [if_neg c67] at H
           have c67b0 : decide (x11_3 < (t231.length : Int)) = false := decide_eq_false c67
           clear c67
           (first | rw [c67b0] | (simp only [i64_w, i32_w]; rw [c67b0]) | skip)
           have H' := Aside0.mk H
           clear H
           try go_wp2
           have n0_ := Aside0.mk (Kd.N_drew HO_6.out)
           have n1_ := Aside0.mk (Kd.R_drew HO_8.out)
           have n2_ := Aside0.mk (Kd.R_drew HO_9.out)
           have n3_ := Aside0.mk (Kd.R_drew HO_10.out)
           have n4_ := Aside0.mk (Kd.V_drew HO_210004.out)
           have n5_ := Aside0.mk (Kd.V_drew HO_211004.out)
           have n6_ := Aside0.mk (blk_drew BK209.out)
           have n7_ := Aside0.mk (blk_drew BK210.out)
           have n8_ := Aside0.mk (Kd.C_drew HR230_4.out)
           have n9_ := Aside0.mk (Kd.C_drew HR234_4.out)
           have n10_ := Aside0.mk (below_drew1 HB.out)
           clear HO_6
           clear HO_8
           clear HO_9
           clear HO_10
           clear HO_210004
           clear HO_211004
           clear BK209
           clear BK210
           clear HR230_4
           clear HR234_4
           clear HB
           have HO_6 := n0_
           have HO_8 := n1_
           have HO_9 := n2_
           have HO_10 := n3_
           have HO_210004 := n4_
           have HO_211004 := n5_
           have BK209 := n6_
           have BK210 := n7_
           have HR230_4 := n8_
           have HR234_4 := n9_
           have HB := n10_
           clear n0_ n1_ n2_ n3_ n4_ n5_ n6_ n7_ n8_ n9_ n10_
           obtain ⟨Ao81, co81, eo81⟩ := Kd.R_slice HO_9.out
           (first | subst eo81 | (injection eo81 with f1_ f2_ f3_; have f4_ := f1_.symm; have f5_ := f3_.symm; clear f1_ f2_ f3_; subst f4_; subst f5_))
           refine start_ (n := 21) (S := fun w' => True) (ds := []) #[false, false, false, false, false, false, false, false, false, false, false, false, false, false, false, false, false, false, false, false, false] (by kernel_rfl) rfl rfl trivial (fun hHeld => ?_); refine with_tabW phaetontop_TopLine.tab12 phaetontop_TopLine.bits12 (fun HT_ HW_ => ?_)
           generalize wr.drew = w80 at HO_6 HO_8 HO_9 HO_10 HO_210004 HO_211004 BK209 BK210 HR230_4 HR234_4 HB hHeld ⊢
           refine pure_ (i := 0) (N := some 81) (v := ?_) (a' := ?_) (HW.tf 1 20) rfl rfl (any_of HT_.out (by kernel_rfl)) (fun _ _ _ h => h) (Or.inl ⟨by rfl, ?_⟩) ?_ ?_
           rotate_left
           ·intro w'
            go_simp
            with_reducible rfl
           rotate_left
           ·simp only [Act.put, HW.LA, HW.LZ, HW.LS, i64_w, i32_w]
            rfl
           refine pure_ (i := 1) (N := some 82) (v := ?_) (a' := ?_) (HW.tf 2 19) rfl rfl (any_of HT_.out (by kernel_rfl)) (fun _ _ _ h => h) (Or.inl ⟨by rfl, ?_⟩) ?_ ?_
           rotate_left
           ·intro w'
            go_simp
            with_reducible rfl
           rotate_left
           ·simp only [Act.put, HW.LA, HW.LZ, HW.LS, i64_w, i32_w]
            rfl
           refine pure_ (i := 2) (N := some 83) (v := ?_) (a' := ?_) (HW.tf 3 18) rfl rfl (any_of HT_.out (by kernel_rfl)) (fun _ _ _ h => h) (Or.inl ⟨by rfl, ?_⟩) ?_ ?_
           rotate_left
           ·intro w'
            go_simp
            with_reducible rfl
           rotate_left
           ·simp only [Act.put, HW.LA, HW.LZ, HW.LS, i64_w, i32_w]
            rfl
           refine pure_ (i := 3) (N := some 84) (v := ?_) (a' := ?_) (HW.tf 4 17) rfl rfl (any_of HT_.out (by kernel_rfl)) (fun _ _ _ h => h) (Or.inl ⟨by rfl, ?_⟩) ?_ ?_
           rotate_left
           ·intro w'
            go_simp
            with_reducible rfl
           rotate_left
           ·simp only [Act.put, HW.LA, HW.LZ, HW.LS, i64_w, i32_w]
            rfl
           refine pure_ (i := 4) (N := some 85) (v := ?_) (a' := ?_) (HW.tf 5 16) rfl rfl (any_of HT_.out (by kernel_rfl)) (fun _ _ _ h => h) (Or.inl ⟨by rfl, ?_⟩) ?_ ?_
           rotate_left
           ·intro w'
            go_simp
            with_reducible rfl
           rotate_left
           ·simp only [Act.put, HW.LA, HW.LZ, HW.LS, i64_w, i32_w]
            rfl
           refine pure_ (i := 5) (N := some 86) (v := undef) (a' := ?_) (HW.tf 6 15) rfl rfl (any_of HT_.out (by kernel_rfl)) (fun _ _ _ h => h) (Or.inr ⟨by rfl, rfl⟩) ?_ ?_
           rotate_left
           ·simp only [Act.put, HW.LA, HW.LZ, HW.LS, i64_w, i32_w]
            rfl
           refine pure_ (i := 6) (N := some 87) (v := undef) (a' := ?_) (HW.tf 7 14) rfl rfl (any_of HT_.out (by kernel_rfl)) (fun _ _ _ h => h) (Or.inr ⟨by rfl, rfl⟩) ?_ ?_
           rotate_left
           ·simp only [Act.put, HW.LA, HW.LZ, HW.LS, i64_w, i32_w]
            rfl
           refine pure_ (i := 7) (N := some 88) (v := undef) (a' := ?_) (HW.tf 8 13) rfl rfl (any_of HT_.out (by kernel_rfl)) (fun _ _ _ h => h) (Or.inr ⟨by rfl, rfl⟩) ?_ ?_
           rotate_left
           ·simp only [Act.put, HW.LA, HW.LZ, HW.LS, i64_w, i32_w]
            rfl
           refine pure_ (i := 8) (N := some 89) (v := undef) (a' := ?_) (HW.tf 9 12) rfl rfl (any_of HT_.out (by kernel_rfl)) (fun _ _ _ h => h) (Or.inr ⟨by rfl, rfl⟩) ?_ ?_
           rotate_left
           ·simp only [Act.put, HW.LA, HW.LZ, HW.LS, i64_w, i32_w]
            rfl
           refine pure_ (i := 9) (N := some 90) (v := ?_) (a' := ?_) (HW.tf 10 11) rfl rfl (any_of HT_.out (by kernel_rfl)) (fun _ _ _ h => h) (Or.inl ⟨by rfl, ?_⟩) ?_ ?_
           rotate_left
           ·intro w'
            go_simp
            with_reducible rfl
           rotate_left
           ·simp only [Act.put, HW.LA, HW.LZ, HW.LS, i64_w, i32_w]
            rfl
           refine pure_ (i := 10) (N := some 91) (v := ?_) (a' := ?_) (HW.tf 11 10) rfl rfl (any_of HT_.out (by kernel_rfl)) (fun _ _ _ h => h) (Or.inl ⟨by rfl, ?_⟩) ?_ ?_
           rotate_left
           ·intro w'
            go_simp
            with_reducible rfl
           rotate_left
           ·simp only [Act.put, HW.LA, HW.LZ, HW.LS, i64_w, i32_w]
            rfl
           refine pure_ (i := 11) (N := some 92) (v := undef) (a' := ?_) (HW.tf 12 9) rfl rfl (any_of HT_.out (by kernel_rfl)) (fun _ _ _ h => h) (Or.inr ⟨by rfl, rfl⟩) ?_ ?_
           rotate_left
           ·simp only [Act.put, HW.LA, HW.LZ, HW.LS, i64_w, i32_w]
            rfl
           refine pure_ (i := 12) (N := some 93) (v := undef) (a' := ?_) (HW.tf 13 8) rfl rfl (any_of HT_.out (by kernel_rfl)) (fun _ _ _ h => h) (Or.inr ⟨by rfl, rfl⟩) ?_ ?_
           rotate_left
           ·simp only [Act.put, HW.LA, HW.LZ, HW.LS, i64_w, i32_w]
            rfl
           refine pure_ (i := 13) (N := some 94) (v := undef) (a' := ?_) (HW.tf 14 7) rfl rfl (any_of HT_.out (by kernel_rfl)) (fun _ _ _ h => h) (Or.inr ⟨by rfl, rfl⟩) ?_ ?_
           rotate_left
           ·simp only [Act.put, HW.LA, HW.LZ, HW.LS, i64_w, i32_w]
            rfl
           refine pure_ (i := 14) (N := some 95) (v := undef) (a' := ?_) (HW.tf 15 6) rfl rfl (any_of HT_.out (by kernel_rfl)) (fun _ _ _ h => h) (Or.inr ⟨by rfl, rfl⟩) ?_ ?_
           rotate_left
           ·simp only [Act.put, HW.LA, HW.LZ, HW.LS, i64_w, i32_w]
            rfl
           refine pure_ (i := 15) (N := some 96) (v := undef) (a' := ?_) (HW.tf 16 5) rfl rfl (any_of HT_.out (by kernel_rfl)) (fun _ _ _ h => h) (Or.inr ⟨by rfl, rfl⟩) ?_ ?_
           rotate_left
           ·simp only [Act.put, HW.LA, HW.LZ, HW.LS, i64_w, i32_w]
            rfl
           refine pure_ (i := 16) (N := some 97) (v := undef) (a' := ?_) (HW.tf 17 4) rfl rfl (any_of HT_.out (by kernel_rfl)) (fun _ _ _ h => h) (Or.inr ⟨by rfl, rfl⟩) ?_ ?_
           rotate_left
           ·simp only [Act.put, HW.LA, HW.LZ, HW.LS, i64_w, i32_w]
            rfl
           refine pure_ (i := 17) (N := some 98) (v := undef) (a' := ?_) (HW.tf 18 3) rfl rfl (any_of HT_.out (by kernel_rfl)) (fun _ _ _ h => h) (Or.inr ⟨by rfl, rfl⟩) ?_ ?_
           rotate_left
           ·simp only [Act.put, HW.LA, HW.LZ, HW.LS, i64_w, i32_w]
            rfl
           refine pure_ (i := 18) (N := some 99) (v := undef) (a' := ?_) (HW.tf 19 2) rfl rfl (any_of HT_.out (by kernel_rfl)) (fun _ _ _ h => h) (Or.inr ⟨by rfl, rfl⟩) ?_ ?_
           rotate_left
           ·simp only [Act.put, HW.LA, HW.LZ, HW.LS, i64_w, i32_w]
            rfl
           refine pure_ (i := 19) (N := some 100) (v := undef) (a' := ?_) (HW.tf 20 1) rfl rfl (any_of HT_.out (by kernel_rfl)) (fun _ _ _ h => h) (Or.inr ⟨by rfl, rfl⟩) ?_ ?_
           rotate_left
           ·simp only [Act.put, HW.LA, HW.LZ, HW.LS, i64_w, i32_w]
            rfl
           refine pure_ (i := 20) (N := some 101) (v := ?_) (a' := ?_) (HW.tf 21 0) rfl rfl (any_of HT_.out (by kernel_rfl)) (fun _ _ _ h => h) (Or.inl ⟨by rfl, ?_⟩) ?_ ?_
           rotate_left
           ·intro w'
            go_simp
            with_reducible rfl
           rotate_left
           ·simp only [Act.put, HW.LA, HW.LZ, HW.LS, i64_w, i32_w]
            rfl
           refine done_ (done_of HT_.out (by kernel_rfl)) ?_
           try go_wp2
           go_meet
           case rel => exact ⟨_, (x11_3), (by first | rfl | (simp; done) | (simp [*]; done)), H', ⟨by have := HJ3.out; have := HJ34.out; have := HK3.out; first | omega | exact Nat.le_refl _⟩, ⟨by (with_reducible repeat (first | apply Kd.N_alloc | apply Kd.N_drewN | apply Kd.N_drew)); exact HO_6.out⟩, ⟨by (with_reducible repeat (first | apply Kd.R_alloc | apply Kd.R_drewN | apply Kd.R_drew)); exact HO_8.out⟩, ⟨by (with_reducible repeat (first | apply Kd.R_alloc | apply Kd.R_drewN | apply Kd.R_drew)); exact HO_9.out⟩, ⟨by (with_reducible repeat (first | apply Kd.R_alloc | apply Kd.R_drewN | apply Kd.R_drew)); exact HO_10.out⟩, ⟨by (with_reducible repeat (first | apply Kd.V_alloc | apply Kd.V_drewN | apply Kd.V_drew)); exact HO_210004.out⟩, ⟨by (with_reducible repeat (first | apply Kd.V_alloc | apply Kd.V_drewN | apply Kd.V_drew)); exact HO_211004.out⟩, ⟨by (with_reducible repeat (first | refine blk_drewN ?_ _ | refine blk_drew ?_ | refine blk_alloc ?_ _)); exact BK209.out⟩, ⟨by (with_reducible repeat (first | refine blk_drewN ?_ _ | refine blk_drew ?_ | refine blk_alloc ?_ _)); exact BK210.out⟩, ⟨by repeat (first | (with_reducible exact HR230_4.out) | (with_reducible refine Kd.C_alloc ?_ _) | (with_reducible refine Kd.C_drewN ?_ _) | (with_reducible refine Kd.C_drew ?_) | exact HR230_4.out)⟩, ⟨by repeat (first | (with_reducible exact HR234_4.out) | (with_reducible refine Kd.C_alloc ?_ _) | (with_reducible refine Kd.C_drewN ?_ _) | (with_reducible refine Kd.C_drew ?_) | exact HR234_4.out)⟩, ⟨by repeat (first | (with_reducible first | exact HB.out | apply below_alloc | apply pw_below_drewN | apply below_drew1 | refine below_set ?_ GE209.out | refine below_set ?_ GE210.out) | exact HB.out)⟩⟩
       case rest => as_aux_lemma =>
        clear HC64
        try clear p2
        try clear q2
        try clear hx2
        try clear c6
        try clear p6
        try clear c7
        try clear p23
        try clear q23
        try clear hx23
        try clear p64
        try clear c67
        try clear c67b0
        try clear c68
        try clear c68b0
        try clear c69
        try clear c70
        try clear c70b0
        try clear c70b1
        try clear hx238_0
        try clear hx239_0
        try clear p238
        try clear p239
        try clear q238
        try clear q239
        obtain ⟨kq, x11_63, rfl, HA, HJ63, HO_6, HO_8, HO_9, HO_10, HO_210004, HO_211004, BK209, BK210, HR230_4, HR234_4, HB⟩ := hcut
        cases kq with
        | zero => exact absurd HA.out (by simp [phaetontop_TopLine.j3])
        | succ kj63 =>
         have H := HA.out
         clear HA
         simp only [phaetontop_TopLine.j3] at H
         have HC82 := Aside0.mk H
         clear H
         go_upto_region 14 with (fail)
         go_cut [120] (fun v120 wc => ∃ (kq : Nat) (x120_81 : Bool), v120 = .bool x120_81 ∧ Aside0 (phaetontop_TopLine.j4 kq t211 y221 t224 t225 t231 t235 x11_63 x120_81 = some r) ∧ Aside0 (kq ≤ kj63) ∧ Aside0 (Kd.N k26 26 wc w.heap.size (fun k_ => ((P0_4_ k_ ∨ P1_4_ k_) ∨ w.heap.size ≤ k_) ∧ some k_ ≠ (v226 : Value).ownBlock ∧ some k_ ≠ (v232 : Value).ownBlock ∧ some k_ ≠ (v236 : Value).ownBlock ∧ k_ ≠ gb209 ∧ k_ ≠ gb210) (.slice (some ad230) y221.length co41) y221) ∧ Aside0 (Kd.R (Kd.int .i64) 3 wc w.heap.size (fun k_ => (w.heap.size ≤ k_) ∧ some k_ ≠ (v232 : Value).ownBlock ∧ some k_ ≠ (v236 : Value).ownBlock) v226 t225) ∧ Aside0 (Kd.R (Kd.int .i64) 3 wc w.heap.size (fun k_ => (w.heap.size ≤ k_) ∧ some k_ ≠ (v226 : Value).ownBlock ∧ some k_ ≠ (v236 : Value).ownBlock) v232 t231) ∧ Aside0 (Kd.R (Kd.int .i64) 3 wc w.heap.size (fun k_ => (w.heap.size ≤ k_) ∧ some k_ ≠ (v226 : Value).ownBlock ∧ some k_ ≠ (v232 : Value).ownBlock) v236 t235) ∧ Aside0 (Kd.V (Kd.int .u8) 5 wc w.heap.size (fun k_ => ((P0_4_ k_ ∨ P1_4_ k_) ∨ w.heap.size ≤ k_) ∧ some k_ ≠ ((.slice (some ad230) y221.length co41) : Value).ownBlock ∧ some k_ ≠ (v226 : Value).ownBlock ∧ some k_ ≠ (v232 : Value).ownBlock ∧ some k_ ≠ (v236 : Value).ownBlock ∧ k_ ≠ gb209 ∧ k_ ≠ gb210) (.slice A0_4 l0_4.length c0_4) l0_4) ∧ Aside0 (Kd.V (Kd.int .u8) 5 wc w.heap.size (fun k_ => ((P0_4_ k_ ∨ P1_4_ k_) ∨ w.heap.size ≤ k_) ∧ some k_ ≠ ((.slice (some ad230) y221.length co41) : Value).ownBlock ∧ some k_ ≠ (v226 : Value).ownBlock ∧ some k_ ≠ (v232 : Value).ownBlock ∧ some k_ ≠ (v236 : Value).ownBlock ∧ k_ ≠ gb209 ∧ k_ ≠ gb210) (.slice A1_4 l1_4.length c1_4) l1_4) ∧ Aside0 (wc.heap[gb209]? = some (.cells #[.bool a0_0, .int .i64 a0_1, .bool a0_2, .int .i64 a0_3, (.slice A0_4 l0_4.length c0_4)] 26 (0, 0))) ∧ Aside0 (wc.heap[gb210]? = some (.cells #[.bool a1_0, .int .i64 a1_1, .bool a1_2, .int .i64 a1_3, (.slice A1_4 l1_4.length c1_4)] 26 (0, 0))) ∧ Aside0 (Kd.C (Kd.int .u8) wc A230_4 ((rd_T26 y221 t224).f4).length ((rd_T26 y221 t224).f4)) ∧ Aside0 (Kd.C (Kd.int .u8) wc A234_4 ((rd_T26 y221 (ji60)).f4).length ((rd_T26 y221 (ji60)).f4)) ∧ Aside0 (Below w.heap.size w wc))
         case first => as_aux_lemma =>
          have H := HC82.out
          clear HC82
          by_cases c83 : x11_63 ≥ (t231.length : Int)
          ·rw [if_pos c83] at H
           have c83b0 : decide ((t231.length : Int) ≤ x11_63) = true := decide_eq_true c83
           clear c83
           (first | rw [c83b0] | (simp only [i64_w, i32_w]; rw [c83b0]) | skip)
           have H' := Aside0.mk H
           clear H
           obtain ⟨Ao84, co84, eo84⟩ := Kd.R_slice HO_9.out
           subst eo84
           go_wp2
           go_meet
           case rel => exact ⟨_, (true), (by first | rfl | (simp; done) | (simp [*]; done)), H', ⟨by have := HJ3.out; have := HJ34.out; have := HJ63.out; first | omega | exact Nat.le_refl _⟩, ⟨by (with_reducible repeat (first | apply Kd.N_alloc | apply Kd.N_drewN | apply Kd.N_drew)); exact HO_6.out⟩, ⟨by (with_reducible repeat (first | apply Kd.R_alloc | apply Kd.R_drewN | apply Kd.R_drew)); exact HO_8.out⟩, ⟨by (with_reducible repeat (first | apply Kd.R_alloc | apply Kd.R_drewN | apply Kd.R_drew)); exact HO_9.out⟩, ⟨by (with_reducible repeat (first | apply Kd.R_alloc | apply Kd.R_drewN | apply Kd.R_drew)); exact HO_10.out⟩, ⟨by (with_reducible repeat (first | apply Kd.V_alloc | apply Kd.V_drewN | apply Kd.V_drew)); exact HO_210004.out⟩, ⟨by (with_reducible repeat (first | apply Kd.V_alloc | apply Kd.V_drewN | apply Kd.V_drew)); exact HO_211004.out⟩, ⟨by (with_reducible repeat (first | refine blk_drewN ?_ _ | refine blk_drew ?_ | refine blk_alloc ?_ _)); exact BK209.out⟩, ⟨by (with_reducible repeat (first | refine blk_drewN ?_ _ | refine blk_drew ?_ | refine blk_alloc ?_ _)); exact BK210.out⟩, ⟨by repeat (first | (with_reducible exact HR230_4.out) | (with_reducible refine Kd.C_alloc ?_ _) | (with_reducible refine Kd.C_drewN ?_ _) | (with_reducible refine Kd.C_drew ?_) | exact HR230_4.out)⟩, ⟨by repeat (first | (with_reducible exact HR234_4.out) | (with_reducible refine Kd.C_alloc ?_ _) | (with_reducible refine Kd.C_drewN ?_ _) | (with_reducible refine Kd.C_drew ?_) | exact HR234_4.out)⟩, ⟨by repeat (first | (with_reducible first | exact HB.out | apply below_alloc | apply pw_below_drewN | apply below_drew1 | refine below_set ?_ GE209.out | refine below_set ?_ GE210.out) | exact HB.out)⟩⟩
          ·rw [if_neg c83] at H
           have c83b0 : decide ((t231.length : Int) ≤ x11_63) = false := decide_eq_false c83
           clear c83
           (first | rw [c83b0] | (simp only [i64_w, i32_w]; rw [c83b0]) | skip)
           by_cases c85 : x11_63 ≥ (t235.length : Int)
           ·rw [if_pos c85] at H
            have c85b0 : decide ((t235.length : Int) ≤ x11_63) = true := decide_eq_true c85
            clear c85
            have H' := Aside0.mk H
            clear H
            obtain ⟨Ao86, co86, eo86⟩ := Kd.R_slice HO_9.out
            subst eo86
            obtain ⟨Ao87, co87, eo87⟩ := Kd.R_slice HO_10.out
            subst eo87
            go_wp2
            go_meet
            case rel => exact ⟨_, (true), (by first | rfl | (simp; done) | (simp [*]; done)), H', ⟨by have := HJ3.out; have := HJ34.out; have := HJ63.out; first | omega | exact Nat.le_refl _⟩, ⟨by (with_reducible repeat (first | apply Kd.N_alloc | apply Kd.N_drewN | apply Kd.N_drew)); exact HO_6.out⟩, ⟨by (with_reducible repeat (first | apply Kd.R_alloc | apply Kd.R_drewN | apply Kd.R_drew)); exact HO_8.out⟩, ⟨by (with_reducible repeat (first | apply Kd.R_alloc | apply Kd.R_drewN | apply Kd.R_drew)); exact HO_9.out⟩, ⟨by (with_reducible repeat (first | apply Kd.R_alloc | apply Kd.R_drewN | apply Kd.R_drew)); exact HO_10.out⟩, ⟨by (with_reducible repeat (first | apply Kd.V_alloc | apply Kd.V_drewN | apply Kd.V_drew)); exact HO_210004.out⟩, ⟨by (with_reducible repeat (first | apply Kd.V_alloc | apply Kd.V_drewN | apply Kd.V_drew)); exact HO_211004.out⟩, ⟨by (with_reducible repeat (first | refine blk_drewN ?_ _ | refine blk_drew ?_ | refine blk_alloc ?_ _)); exact BK209.out⟩, ⟨by (with_reducible repeat (first | refine blk_drewN ?_ _ | refine blk_drew ?_ | refine blk_alloc ?_ _)); exact BK210.out⟩, ⟨by repeat (first | (with_reducible exact HR230_4.out) | (with_reducible refine Kd.C_alloc ?_ _) | (with_reducible refine Kd.C_drewN ?_ _) | (with_reducible refine Kd.C_drew ?_) | exact HR230_4.out)⟩, ⟨by repeat (first | (with_reducible exact HR234_4.out) | (with_reducible refine Kd.C_alloc ?_ _) | (with_reducible refine Kd.C_drewN ?_ _) | (with_reducible refine Kd.C_drew ?_) | exact HR234_4.out)⟩, ⟨by repeat (first | (with_reducible first | exact HB.out | apply below_alloc | apply pw_below_drewN | apply below_drew1 | refine below_set ?_ GE209.out | refine below_set ?_ GE210.out) | exact HB.out)⟩⟩
           ·rw [if_neg c85] at H
            have c85b0 : decide ((t235.length : Int) ≤ x11_63) = false := decide_eq_false c85
            clear c85
            by_cases c88 : 0 ≤ x11_63
            rotate_left
            ·rw [if_neg c88] at H
             exact absurd H (by simp)
            rw [if_pos c88] at H
            have c88b0 : decide (0 ≤ x11_63) = true := decide_eq_true c88
            clear c88
            by_cases c89 : x11_63 < (t231.length : Int)
            rotate_left
            ·rw [if_neg c89] at H
             exact absurd H (by simp)
            rw [if_pos c89] at H
            have c89b0 : decide (x11_63 < (t231.length : Int)) = true := decide_eq_true c89
            clear c89
            have H' := Aside0.mk H
            clear H
            obtain ⟨Ao90, co90, eo90⟩ := Kd.R_slice HO_9.out
            subst eo90
            obtain ⟨Ao91, co91, eo91⟩ := Kd.R_slice HO_10.out
            subst eo91
            have p240 : 0 ≤ (x11_63 : Int) := of_decide_eq_true (by first | (with_reducible assumption) | assumption)
            have q240 : x11_63 < (t231.length : Int) := of_decide_eq_true (by first | (with_reducible assumption) | assumption)
            obtain ⟨ad240, e240, hx240_0⟩ := Kd.at_int (Kd.R_reads' HO_9.out).2.2 x11_63 p240 q240
            cases e240
            replace p240 := eq_true p240
            replace q240 := eq_true q240
            go_wp2
            go_meet
            case rel => exact ⟨_, (((rd t231 x11_63) != 0)), (by first | rfl | (simp; done) | (simp [*]; done)), H', ⟨by have := HJ3.out; have := HJ34.out; have := HJ63.out; first | omega | exact Nat.le_refl _⟩, ⟨by (with_reducible repeat (first | apply Kd.N_alloc | apply Kd.N_drewN | apply Kd.N_drew)); exact HO_6.out⟩, ⟨by (with_reducible repeat (first | apply Kd.R_alloc | apply Kd.R_drewN | apply Kd.R_drew)); exact HO_8.out⟩, ⟨by (with_reducible repeat (first | apply Kd.R_alloc | apply Kd.R_drewN | apply Kd.R_drew)); exact HO_9.out⟩, ⟨by (with_reducible repeat (first | apply Kd.R_alloc | apply Kd.R_drewN | apply Kd.R_drew)); exact HO_10.out⟩, ⟨by (with_reducible repeat (first | apply Kd.V_alloc | apply Kd.V_drewN | apply Kd.V_drew)); exact HO_210004.out⟩, ⟨by (with_reducible repeat (first | apply Kd.V_alloc | apply Kd.V_drewN | apply Kd.V_drew)); exact HO_211004.out⟩, ⟨by (with_reducible repeat (first | refine blk_drewN ?_ _ | refine blk_drew ?_ | refine blk_alloc ?_ _)); exact BK209.out⟩, ⟨by (with_reducible repeat (first | refine blk_drewN ?_ _ | refine blk_drew ?_ | refine blk_alloc ?_ _)); exact BK210.out⟩, ⟨by repeat (first | (with_reducible exact HR230_4.out) | (with_reducible refine Kd.C_alloc ?_ _) | (with_reducible refine Kd.C_drewN ?_ _) | (with_reducible refine Kd.C_drew ?_) | exact HR230_4.out)⟩, ⟨by repeat (first | (with_reducible exact HR234_4.out) | (with_reducible refine Kd.C_alloc ?_ _) | (with_reducible refine Kd.C_drewN ?_ _) | (with_reducible refine Kd.C_drew ?_) | exact HR234_4.out)⟩, ⟨by repeat (first | (with_reducible first | exact HB.out | apply below_alloc | apply pw_below_drewN | apply below_drew1 | refine below_set ?_ GE209.out | refine below_set ?_ GE210.out) | exact HB.out)⟩⟩
         case rest => as_aux_lemma =>
          clear HC82
          try clear c1
          try clear p2
          try clear q2
          try clear hx2
          try clear c6
          try clear p6
          try clear c7
          try clear c8
          try clear p23
          try clear q23
          try clear hx23
          try clear p24
          try clear q24
          try clear hx24
          try clear p64
          try clear c67
          try clear c67b0
          try clear c68
          try clear c68b0
          try clear c69
          try clear c70
          try clear c70b0
          try clear c70b1
          try clear c83
          try clear c83b0
          try clear c85
          try clear c85b0
          try clear c88
          try clear c88b0
          try clear c89
          try clear c89b0
          try clear hx238_0
          try clear hx239_0
          try clear hx240_0
          try clear p2
          try clear p23
          try clear p238
          try clear p239
          try clear p240
          try clear p6
          try clear p64
          try clear q2
          try clear q23
          try clear q238
          try clear q239
          try clear q240
          obtain ⟨kq, x120_81, rfl, HA, HJ81, HO_6, HO_8, HO_9, HO_10, HO_210004, HO_211004, BK209, BK210, HR230_4, HR234_4, HB⟩ := hcut
          cases kq with
          | zero => exact absurd HA.out (by simp [phaetontop_TopLine.j4])
          | succ kj81 =>
           have H := HA.out
           clear HA
           simp only [phaetontop_TopLine.j4] at H
           by_cases c92 : x120_81 = true
           ·subst c92
            have H1 : (none) = some r := by rw [if_pos rfl] at H; exact H
            clear H
            have H := H1
            clear H1
            exact absurd H (by simp)
           ·replace c92 := Bool.eq_false_iff.mpr c92
            subst c92
            have H1 : (phaetontop_TopLine.l1 kj81 t211 y221 t224 t225 t231 t235 x11_63 0) = some r := by rw [if_neg (show ¬ (false = true) by decide)] at H; exact H
            clear H
            have H := H1
            clear H1
            have H' := Aside0.mk H
            clear H
            go_wp2
            go_loopg [12] kj81 (fun kq v12 w' => ∃ (x12_5 : Int), v12 = .int .i64 x12_5 ∧ Aside0 (phaetontop_TopLine.l1 kq t211 y221 t224 t225 t231 t235 x11_63 x12_5 = some r) ∧ Aside0 (kq ≤ kj81) ∧ Aside0 (Kd.N k26 26 w' w.heap.size (fun k_ => ((P0_4_ k_ ∨ P1_4_ k_) ∨ w.heap.size ≤ k_) ∧ some k_ ≠ (v226 : Value).ownBlock ∧ some k_ ≠ (v232 : Value).ownBlock ∧ some k_ ≠ (v236 : Value).ownBlock ∧ k_ ≠ gb209 ∧ k_ ≠ gb210) (.slice (some ad230) y221.length co41) y221) ∧ Aside0 (Kd.R (Kd.int .i64) 3 w' w.heap.size (fun k_ => (w.heap.size ≤ k_) ∧ some k_ ≠ (v232 : Value).ownBlock ∧ some k_ ≠ (v236 : Value).ownBlock) v226 t225) ∧ Aside0 (Kd.R (Kd.int .i64) 3 w' w.heap.size (fun k_ => (w.heap.size ≤ k_) ∧ some k_ ≠ (v226 : Value).ownBlock ∧ some k_ ≠ (v236 : Value).ownBlock) v232 t231) ∧ Aside0 (Kd.R (Kd.int .i64) 3 w' w.heap.size (fun k_ => (w.heap.size ≤ k_) ∧ some k_ ≠ (v226 : Value).ownBlock ∧ some k_ ≠ (v232 : Value).ownBlock) v236 t235) ∧ Aside0 (Kd.V (Kd.int .u8) 5 w' w.heap.size (fun k_ => ((P0_4_ k_ ∨ P1_4_ k_) ∨ w.heap.size ≤ k_) ∧ some k_ ≠ ((.slice (some ad230) y221.length co41) : Value).ownBlock ∧ some k_ ≠ (v226 : Value).ownBlock ∧ some k_ ≠ (v232 : Value).ownBlock ∧ some k_ ≠ (v236 : Value).ownBlock ∧ k_ ≠ gb209 ∧ k_ ≠ gb210) (.slice A0_4 l0_4.length c0_4) l0_4) ∧ Aside0 (Kd.V (Kd.int .u8) 5 w' w.heap.size (fun k_ => ((P0_4_ k_ ∨ P1_4_ k_) ∨ w.heap.size ≤ k_) ∧ some k_ ≠ ((.slice (some ad230) y221.length co41) : Value).ownBlock ∧ some k_ ≠ (v226 : Value).ownBlock ∧ some k_ ≠ (v232 : Value).ownBlock ∧ some k_ ≠ (v236 : Value).ownBlock ∧ k_ ≠ gb209 ∧ k_ ≠ gb210) (.slice A1_4 l1_4.length c1_4) l1_4) ∧ Aside0 (w'.heap[gb209]? = some (.cells #[.bool a0_0, .int .i64 a0_1, .bool a0_2, .int .i64 a0_3, (.slice A0_4 l0_4.length c0_4)] 26 (0, 0))) ∧ Aside0 (w'.heap[gb210]? = some (.cells #[.bool a1_0, .int .i64 a1_1, .bool a1_2, .int .i64 a1_3, (.slice A1_4 l1_4.length c1_4)] 26 (0, 0))) ∧ Aside0 (Kd.C (Kd.int .u8) w' A230_4 ((rd_T26 y221 t224).f4).length ((rd_T26 y221 t224).f4)) ∧ Aside0 (Kd.C (Kd.int .u8) w' A234_4 ((rd_T26 y221 (ji60)).f4).length ((rd_T26 y221 (ji60)).f4)) ∧ Aside0 (Below w.heap.size w w'))
            case atStart => exact ⟨(0), (by first | rfl | (simp; done) | (simp [*]; done)), H', ⟨Nat.le_refl _⟩, ⟨by (with_reducible repeat (first | apply Kd.N_alloc | apply Kd.N_drewN | apply Kd.N_drew)); exact HO_6.out⟩, ⟨by (with_reducible repeat (first | apply Kd.R_alloc | apply Kd.R_drewN | apply Kd.R_drew)); exact HO_8.out⟩, ⟨by (with_reducible repeat (first | apply Kd.R_alloc | apply Kd.R_drewN | apply Kd.R_drew)); exact HO_9.out⟩, ⟨by (with_reducible repeat (first | apply Kd.R_alloc | apply Kd.R_drewN | apply Kd.R_drew)); exact HO_10.out⟩, ⟨by (with_reducible repeat (first | apply Kd.V_alloc | apply Kd.V_drewN | apply Kd.V_drew)); exact HO_210004.out⟩, ⟨by (with_reducible repeat (first | apply Kd.V_alloc | apply Kd.V_drewN | apply Kd.V_drew)); exact HO_211004.out⟩, ⟨by (with_reducible repeat (first | refine blk_drewN ?_ _ | refine blk_drew ?_ | refine blk_alloc ?_ _)); exact BK209.out⟩, ⟨by (with_reducible repeat (first | refine blk_drewN ?_ _ | refine blk_drew ?_ | refine blk_alloc ?_ _)); exact BK210.out⟩, ⟨by repeat (first | (with_reducible exact HR230_4.out) | (with_reducible refine Kd.C_alloc ?_ _) | (with_reducible refine Kd.C_drewN ?_ _) | (with_reducible refine Kd.C_drew ?_) | exact HR230_4.out)⟩, ⟨by repeat (first | (with_reducible exact HR234_4.out) | (with_reducible refine Kd.C_alloc ?_ _) | (with_reducible refine Kd.C_drewN ?_ _) | (with_reducible refine Kd.C_drew ?_) | exact HR234_4.out)⟩, ⟨by repeat (first | (with_reducible first | exact HB.out | apply below_alloc | apply pw_below_drewN | apply below_drew1 | refine below_set ?_ GE209.out | refine below_set ?_ GE210.out) | exact HB.out)⟩⟩
            case round =>
             clear H'
             try clear c1
             try clear p2
             try clear q2
             try clear hx2
             try clear c6
             try clear p6
             try clear c7
             try clear c8
             try clear c9
             try clear p23
             try clear q23
             try clear hx23
             try clear p24
             try clear q24
             try clear hx24
             try clear p64
             try clear c67
             try clear c67b0
             try clear c68
             try clear c68b0
             try clear c69
             try clear c70
             try clear c70b0
             try clear c70b1
             try clear c83
             try clear c83b0
             try clear c85
             try clear c85b0
             try clear c88
             try clear c88b0
             try clear c89
             try clear c89b0
             try clear c92
             try clear hx238_0
             try clear hx239_0
             try clear hx240_0
             try clear p2
             try clear p23
             try clear p238
             try clear p239
             try clear p24
             try clear p240
             try clear p6
             try clear p64
             try clear q2
             try clear q23
             try clear q238
             try clear q239
             try clear q24
             try clear q240
             obtain ⟨x12_5, rfl, HA, HK5, HO_6, HO_8, HO_9, HO_10, HO_210004, HO_211004, BK209, BK210, HR230_4, HR234_4, HB⟩ := hrel
             cases gk with
             | zero => exact absurd HA.out (by simp [phaetontop_TopLine.l1])
             | succ k5 =>
              have H := HA.out
              clear HA
              simp only [phaetontop_TopLine.l1] at H
              by_cases c93 : x12_5 ≤ x11_63
              ·rw [if_pos c93] at H
               have c93b0 : decide (x12_5 ≤ x11_63) = true := decide_eq_true c93
               clear c93
               by_cases c94 : 0 ≤ x12_5
               rotate_left
               ·rw [if_neg c94] at H
                exact absurd H (by simp)
               rw [if_pos c94] at H
               have c94b0 : decide (0 ≤ x12_5) = true := decide_eq_true c94
               clear c94
               by_cases c95 : x12_5 < (t231.length : Int)
               rotate_left
               ·rw [if_neg c95] at H
                exact absurd H (by simp)
               rw [if_pos c95] at H
               have c95b0 : decide (x12_5 < (t231.length : Int)) = true := decide_eq_true c95
               clear c95
               by_cases c96 : x12_5 < (t235.length : Int)
               rotate_left
               ·rw [if_neg c96] at H
                exact absurd H (by simp)
               rw [if_pos c96] at H
               have c96b0 : decide (x12_5 < (t235.length : Int)) = true := decide_eq_true c96
               clear c96
               obtain ⟨y243, hy243⟩ : ∃ y_ : List Int, y_ = (([rd t231 x12_5, rd t235 x12_5] : List Int)) := ⟨_, rfl⟩
               replace H : ((arb_And.f k5 y243).bind fun t246 => (if t246 = (rd t231 x12_5) then (phaetontop_TopLine.l1 k5 t211 y221 t224 t225 t231 t235 x11_63 (wrap64 (x12_5 + 1))) else (none))) = some r := by first | (rw [hy243]; with_reducible exact H) | (have H2_ := (Option.bind_some _ _).symm.trans H; rw [hy243]; with_reducible exact H2_) | (have H2_ := (Option.bind_some _ _).symm.trans H; with_reducible exact H2_) | with_reducible exact H | (rw [hy243]; exact H) | exact H
               have Ny243 := Aside0.mk hy243
               clear hy243
               replace H := Option.bind_eq_some_iff.mp H
               obtain ⟨t246, A970, H⟩ := H
               replace H : (if t246 = (rd t231 x12_5) then (phaetontop_TopLine.l1 k5 t211 y221 t224 t225 t231 t235 x11_63 (wrap64 (x12_5 + 1))) else (none)) = some r := H
               have A97 := Aside0.mk A970
               clear A970
               by_cases c98 : t246 = (rd t231 x12_5)
               rotate_left
               ·rw [if_neg c98] at H
                exact absurd H (by simp)
               rw [if_pos c98] at H
               have c98b0 : (t246 == (rd t231 x12_5)) = true := beq_iff_eq.mpr c98
               have c98b1 : (t246 != (rd t231 x12_5)) = false := bne_eq_false_iff_eq.mpr c98
               clear c98
               have H' := Aside0.mk H
               clear H
               try go_wp2
               have n0_ := Aside0.mk (Kd.N_drew HO_6.out)
               have n1_ := Aside0.mk (Kd.R_drew HO_8.out)
               have n2_ := Aside0.mk (Kd.R_drew HO_9.out)
               have n3_ := Aside0.mk (Kd.R_drew HO_10.out)
               have n4_ := Aside0.mk (Kd.V_drew HO_210004.out)
               have n5_ := Aside0.mk (Kd.V_drew HO_211004.out)
               have n6_ := Aside0.mk (blk_drew BK209.out)
               have n7_ := Aside0.mk (blk_drew BK210.out)
               have n8_ := Aside0.mk (Kd.C_drew HR230_4.out)
               have n9_ := Aside0.mk (Kd.C_drew HR234_4.out)
               have n10_ := Aside0.mk (below_drew1 HB.out)
               clear HO_6
               clear HO_8
               clear HO_9
               clear HO_10
               clear HO_210004
               clear HO_211004
               clear BK209
               clear BK210
               clear HR230_4
               clear HR234_4
               clear HB
               have HO_6 := n0_
               have HO_8 := n1_
               have HO_9 := n2_
               have HO_10 := n3_
               have HO_210004 := n4_
               have HO_211004 := n5_
               have BK209 := n6_
               have BK210 := n7_
               have HR230_4 := n8_
               have HR234_4 := n9_
               have HB := n10_
               clear n0_ n1_ n2_ n3_ n4_ n5_ n6_ n7_ n8_ n9_ n10_
               obtain ⟨Ao100, co100, eo100⟩ := Kd.R_slice HO_9.out
               (first | subst eo100 | (injection eo100 with f1_ f2_ f3_; have f4_ := f1_.symm; have f5_ := f3_.symm; clear f1_ f2_ f3_; subst f4_; subst f5_))
               have p241 : 0 ≤ (x12_5 : Int) := of_decide_eq_true (by first | (with_reducible assumption) | assumption)
               have q241 : x12_5 < (t231.length : Int) := of_decide_eq_true (by first | (with_reducible assumption) | assumption)
               obtain ⟨ad241, e241, hx241_0⟩ := Kd.at_int (Kd.R_reads' HO_9.out).2.2 x12_5 p241 q241
               cases e241
               replace p241 := eq_true p241
               replace q241 := eq_true q241
               obtain ⟨Ao101, co101, eo101⟩ := Kd.R_slice HO_10.out
               (first | subst eo101 | (injection eo101 with f1_ f2_ f3_; have f4_ := f1_.symm; have f5_ := f3_.symm; clear f1_ f2_ f3_; subst f4_; subst f5_))
               have p242 : 0 ≤ (x12_5 : Int) := of_decide_eq_true (by first | (with_reducible assumption) | assumption)
               have q242 : x12_5 < (t235.length : Int) := of_decide_eq_true (by first | (with_reducible assumption) | assumption)
               obtain ⟨ad242, e242, hx242_0⟩ := Kd.at_int (Kd.R_reads' HO_10.out).2.2 x12_5 p242 q242
               cases e242
               replace p242 := eq_true p242
               replace q242 := eq_true q242
               have p247 : 0 ≤ (x12_5 : Int) := of_decide_eq_true (by first | (with_reducible assumption) | assumption)
               have q247 : x12_5 < (t231.length : Int) := of_decide_eq_true (by first | (with_reducible assumption) | assumption)
               obtain ⟨ad247, e247, hx247_0⟩ := Kd.at_int (Kd.R_reads' HO_9.out).2.2 x12_5 p247 q247
               obtain rfl : ad241 = ad247 := (by injection e247)
               replace p247 := eq_true p247
               replace q247 := eq_true q247
               refine start_ (n := 15) (S := fun w' => w'.cell? (ad241.add (x12_5).toNat) = some (.int .i64 (rd t231 x12_5)) ∧ w'.cell? (ad242.add (x12_5).toNat) = some (.int .i64 (rd t235 x12_5)) ∧ w'.cell? (ad241.add (x12_5).toNat) = some (.int .i64 (rd t231 x12_5))) (ds := []) #[false, false, false, false, false, false, false, false, false, false, false, false, false, false, false] (by kernel_rfl) rfl rfl ⟨hx241_0, hx242_0, hx247_0⟩ (fun hHeld => ?_); refine with_tabW phaetontop_TopLine.tab19 phaetontop_TopLine.bits19 (fun HT_ HW_ => ?_)
               generalize wr.drew = w99 at HO_6 HO_8 HO_9 HO_10 HO_210004 HO_211004 BK209 BK210 HR230_4 HR234_4 HB hx241_0 hx242_0 hx247_0 hHeld ⊢
               refine pure_ (i := 0) (N := some 126) (v := ?_) (a' := ?_) (HW.tf 1 14) rfl rfl (any_of HT_.out (by kernel_rfl)) (fun _ _ _ h => h) (Or.inl ⟨by rfl, ?_⟩) ?_ ?_
               rotate_left
               ·intro w'
                go_simp
                with_reducible rfl
               rotate_left
               ·simp only [Act.put, HW.LA, HW.LZ, HW.LS, i64_w, i32_w]
                rfl
               refine pure_ (i := 1) (N := some 127) (v := ?_) (a' := ?_) (HW.tf 2 13) rfl rfl (any_of HT_.out (by kernel_rfl)) (fun _ _ _ h => h) (Or.inl ⟨by rfl, ?_⟩) ?_ ?_
               rotate_left
               ·intro w'
                go_simp
                with_reducible rfl
               rotate_left
               ·simp only [Act.put, HW.LA, HW.LZ, HW.LS, i64_w, i32_w]
                rfl
               refine pure_ (i := 2) (N := some 128) (v := ?_) (a' := ?_) (HW.tf 3 12) rfl rfl (any_of HT_.out (by kernel_rfl)) (fun _ _ _ h => h) (Or.inl ⟨by rfl, ?_⟩) ?_ ?_
               rotate_left
               ·intro w'
                go_simp
                with_reducible rfl
               rotate_left
               ·simp only [Act.put, HW.LA, HW.LZ, HW.LS, i64_w, i32_w]
                rfl
               refine pure_ (i := 4) (N := some 130) (v := ?_) (a' := ?_) #[true, true, true, false, true, false, false, false, false, false, false, false, false, false, false] rfl rfl (any_of HT_.out (by kernel_rfl)) (fun _ _ _ h => h) (Or.inl ⟨by rfl, ?_⟩) ?_ ?_
               rotate_left
               ·intro w'
                go_simp
                with_reducible rfl
               rotate_left
               ·simp only [Act.put, HW.LA, HW.LZ, HW.LS, i64_w, i32_w]
                rfl
               refine pure_ (i := 5) (N := some 131) (v := ?_) (a' := ?_) #[true, true, true, false, true, true, false, false, false, false, false, false, false, false, false] rfl rfl (any_of HT_.out (by kernel_rfl)) (fun _ _ _ h => h) (Or.inl ⟨by rfl, ?_⟩) ?_ ?_
               rotate_left
               ·intro w'
                go_simp
                with_reducible rfl
               rotate_left
               ·simp only [Act.put, HW.LA, HW.LZ, HW.LS, i64_w, i32_w]
                rfl
               refine pure_ (i := 6) (N := some 132) (v := ?_) (a' := ?_) #[true, true, true, false, true, true, true, false, false, false, false, false, false, false, false] rfl rfl (any_of HT_.out (by kernel_rfl)) (fun _ _ _ h => h) (Or.inl ⟨by rfl, ?_⟩) ?_ ?_
               rotate_left
               ·intro w'
                go_simp
                with_reducible rfl
               rotate_left
               ·simp only [Act.put, HW.LA, HW.LZ, HW.LS, i64_w, i32_w]
                rfl
               refine pure_ (i := 10) (N := some 136) (v := ?_) (a' := ?_) #[true, true, true, false, true, true, true, false, false, false, true, false, false, false, false] rfl rfl (any_of HT_.out (by kernel_rfl)) (fun _ _ _ h => h) (Or.inl ⟨by rfl, ?_⟩) ?_ ?_
               rotate_left
               ·intro w'
                go_simp
                with_reducible rfl
               rotate_left
               ·simp only [Act.put, HW.LA, HW.LZ, HW.LS, i64_w, i32_w]
                rfl
               refine pure_ (i := 11) (N := some 137) (v := ?_) (a' := ?_) #[true, true, true, false, true, true, true, false, false, false, true, true, false, false, false] rfl rfl (any_of HT_.out (by kernel_rfl)) (fun _ _ _ h => h) (Or.inl ⟨by rfl, ?_⟩) ?_ ?_
               rotate_left
               ·intro w'
                go_simp
                with_reducible rfl
               rotate_left
               ·simp only [Act.put, HW.LA, HW.LZ, HW.LS, i64_w, i32_w]
                rfl
               refine pure_ (i := 12) (N := some 138) (v := ?_) (a' := ?_) #[true, true, true, false, true, true, true, false, false, false, true, true, true, false, false] rfl rfl (any_of HT_.out (by kernel_rfl)) (fun _ _ _ h => h) (Or.inl ⟨by rfl, ?_⟩) ?_ ?_
               rotate_left
               ·intro w'
                go_simp
                with_reducible rfl
               rotate_left
               ·simp only [Act.put, HW.LA, HW.LZ, HW.LS, i64_w, i32_w]
                rfl
               refine take_ (i := 3) (N := some 129) (v := ?_) (a' := ?_) #[true, true, true, true, true, true, true, false, false, false, true, true, true, false, false] rfl rfl (take_ofW HT_.out HW_.out (by kernel_rfl)) (fun _ _ _ h => h) (Or.inl ⟨by rfl, ?_⟩) hHeld ?_ ?_
               rotate_left
               ·rintro w' ⟨s0, s1, s2⟩
                go_simp
                with_reducible rfl
               rotate_left
               ·simp only [Act.put, HW.LA, HW.LZ, HW.LS, i64_w, i32_w]
                rfl
               refine take_ (i := 7) (N := some 133) (v := ?_) (a' := ?_) #[true, true, true, true, true, true, true, true, false, false, true, true, true, false, false] rfl rfl (take_ofW HT_.out HW_.out (by kernel_rfl)) (fun _ _ _ h => h) (Or.inl ⟨by rfl, ?_⟩) hHeld ?_ ?_
               rotate_left
               ·rintro w' ⟨s0, s1, s2⟩
                go_simp
                with_reducible rfl
               rotate_left
               ·simp only [Act.put, HW.LA, HW.LZ, HW.LS, i64_w, i32_w]
                rfl
               refine take_ (i := 13) (N := some 139) (v := ?_) (a' := ?_) #[true, true, true, true, true, true, true, true, false, false, true, true, true, true, false] rfl rfl (take_ofW HT_.out HW_.out (by kernel_rfl)) (fun _ _ _ h => h) (Or.inl ⟨by rfl, ?_⟩) hHeld ?_ ?_
               rotate_left
               ·rintro w' ⟨s0, s1, s2⟩
                go_simp
                with_reducible rfl
               rotate_left
               ·simp only [Act.put, HW.LA, HW.LZ, HW.LS, i64_w, i32_w]
                rfl
               refine one_ (i := 8) (N := some 134) #[true, true, true, true, true, true, true, true, true, false, true, true, true, true, false] rfl rfl (one_of HT_.out (by kernel_rfl)) (by decide) (fun K hK => ?_)
               refine Kd.R_lit_step (Kd.int .i64) _ 3 ?hg (N := 134) ?hd (xs := ([rd t231 x12_5, rd t235 x12_5] : List Int)) (inner := [.int .i64 (rd t231 x12_5), .int .i64 (rd t235 x12_5)]) (ok := fun _ => True) (okp := fun _ => True) ?hr ?hp (fun _ hk => hk) trivial (Below.refl _ _) (Nat.le_refl _) (by simp) ?_; (case hd => rfl); (case hg => rfl); (case hr => first | (go_simp; done) | (go_simp; rfl)); (case hp => exact (Reps.one (show Kd.M (Kd.int .i64) _ _ _ (rd t231 x12_5) [.int .i64 (rd t231 x12_5)] from rfl) (Reps.one (show Kd.M (Kd.int .i64) _ _ _ (rd t235 x12_5) [.int .i64 (rd t235 x12_5)] from rfl) (Reps.none _ _))))
               intro v244 w102 ho103 hb hg_ hnew_
               have HS0_ := (hb.cell (World.block_lt_of_cell? _ _ (hHeld.1))).trans (hHeld.1)
               have HS1_ := (hb.cell (World.block_lt_of_cell? _ _ (hHeld.2.1))).trans (hHeld.2.1)
               have HS2_ := (hb.cell (World.block_lt_of_cell? _ _ (hHeld.2.2))).trans (hHeld.2.2)
               clear hg_ hnew_
               (first | rw [← Ny243.out] at ho103 | (simp only [Int.reduceToNat] at ho103; rw [← Ny243.out] at ho103))
               have n0_ := Aside0.mk (Kd.N_elder' (by (with_reducible repeat (first | apply Kd.N_alloc | apply Kd.N_drewN | apply Kd.N_drew)); exact HO_6.out) (Kd.R_base ho103) hb)
               have n1_ := Aside0.mk (Kd.R_elder' (by (with_reducible repeat (first | apply Kd.R_alloc | apply Kd.R_drewN | apply Kd.R_drew)); exact HO_8.out) (Kd.R_base ho103) hb)
               have n2_ := Aside0.mk (Kd.R_elder' (by (with_reducible repeat (first | apply Kd.R_alloc | apply Kd.R_drewN | apply Kd.R_drew)); exact HO_9.out) (Kd.R_base ho103) hb)
               have n3_ := Aside0.mk (Kd.R_elder' (by (with_reducible repeat (first | apply Kd.R_alloc | apply Kd.R_drewN | apply Kd.R_drew)); exact HO_10.out) (Kd.R_base ho103) hb)
               have n4_ := Aside0.mk (Kd.V_elder' (by (with_reducible repeat (first | apply Kd.V_alloc | apply Kd.V_drewN | apply Kd.V_drew)); exact HO_210004.out) (Kd.R_base ho103) hb)
               have n5_ := Aside0.mk (Kd.V_elder' (by (with_reducible repeat (first | apply Kd.V_alloc | apply Kd.V_drewN | apply Kd.V_drew)); exact HO_211004.out) (Kd.R_base ho103) hb)
               have n6_ := Aside0.mk (Kd.R_lower (Kd.R_new' (Kd.R_new' (Kd.R_new' (Kd.R_newM (M := fun k_ => (w.heap.size ≤ k_)) ho103 (below_size (by repeat (first | (with_reducible first | exact HB.out | apply below_alloc | apply pw_below_drewN | apply below_drew1 | refine below_set ?_ GE209.out | refine below_set ?_ GE210.out) | exact HB.out))) (fun k_ h_ => h_)) (Kd.R_lt (by (with_reducible repeat (first | apply Kd.R_alloc | apply Kd.R_drewN | apply Kd.R_drew)); exact HO_8.out))) (Kd.R_lt (by (with_reducible repeat (first | apply Kd.R_alloc | apply Kd.R_drewN | apply Kd.R_drew)); exact HO_9.out))) (Kd.R_lt (by (with_reducible repeat (first | apply Kd.R_alloc | apply Kd.R_drewN | apply Kd.R_drew)); exact HO_10.out))) (below_size (by repeat (first | (with_reducible first | exact HB.out | apply below_alloc | apply pw_below_drewN | apply below_drew1 | refine below_set ?_ GE209.out | refine below_set ?_ GE210.out) | exact HB.out))))
               have n7_ := Aside0.mk (blk_below (g := gb209) (o := .cells #[.bool a0_0, .int .i64 a0_1, .bool a0_2, .int .i64 a0_3, .slice A0_4 l0_4.length c0_4] 26 (0, 0)) (by (with_reducible repeat (first | refine blk_drewN ?_ _ | refine blk_drew ?_ | refine blk_alloc ?_ _)); exact BK209.out) hb)
               have n8_ := Aside0.mk (blk_below (g := gb210) (o := .cells #[.bool a1_0, .int .i64 a1_1, .bool a1_2, .int .i64 a1_3, .slice A1_4 l1_4.length c1_4] 26 (0, 0)) (by (with_reducible repeat (first | refine blk_drewN ?_ _ | refine blk_drew ?_ | refine blk_alloc ?_ _)); exact BK210.out) hb)
               have n9_ := Aside0.mk (Kd.C_below (by repeat (first | (with_reducible exact HR230_4.out) | (with_reducible refine Kd.C_alloc ?_ _) | (with_reducible refine Kd.C_drewN ?_ _) | (with_reducible refine Kd.C_drew ?_) | exact HR230_4.out)) hb)
               have n10_ := Aside0.mk (Kd.C_below (by repeat (first | (with_reducible exact HR234_4.out) | (with_reducible refine Kd.C_alloc ?_ _) | (with_reducible refine Kd.C_drewN ?_ _) | (with_reducible refine Kd.C_drew ?_) | exact HR234_4.out)) hb)
               have n11_ := Aside0.mk (below_step (by repeat (first | (with_reducible first | exact HB.out | apply below_alloc | apply pw_below_drewN | apply below_drew1 | refine below_set ?_ GE209.out | refine below_set ?_ GE210.out) | exact HB.out)) hb)
               clear HO_6
               clear HO_8
               clear HO_9
               clear HO_10
               clear HO_210004
               clear HO_211004
               clear BK209
               clear BK210
               clear HR230_4
               clear HR234_4
               clear HB
               have HO_6 := n0_
               have HO_8 := n1_
               have HO_9 := n2_
               have HO_10 := n3_
               have HO_210004 := n4_
               have HO_211004 := n5_
               have HO245 := n6_
               have BK209 := n7_
               have BK210 := n8_
               have HR230_4 := n9_
               have HR234_4 := n10_
               have HB := n11_
               clear n0_ n1_ n2_ n3_ n4_ n5_ n6_ n7_ n8_ n9_ n10_ n11_
               clear hb ho103
               obtain ⟨Ao104, co104, eo104⟩ := Kd.R_slice HO245.out
               (first | subst eo104 | (injection eo104 with f1_ f2_ f3_; have f4_ := f1_.symm; have f5_ := f3_.symm; clear f1_ f2_ f3_; subst f4_; subst f5_))
               refine hK.out _ _ ⟨HS0_, HS1_, HS2_⟩ (fun hHeld => ?_)
               clear hK K
               refine norm_ (a' := ?_) ?_ ?_
               rotate_left
               ·show Act.put _ (some 134) _ = _
                simp only [Act.put, HW.LA, HW.LZ, HW.LS, i64_w, i32_w]
                rfl
               refine one_ (i := 9) (N := some 135) (HW.tf 14 1) rfl rfl (one_of HT_.out (by kernel_rfl)) (by decide) (fun K hK => ?_)
               refine goes_ Try.func14 (by kernel_rfl) rfl #[.slice Ao104 y243.length co104] (by rfl) rfl rfl (by (try simp only [List.map_toArray, List.map_cons, List.map_nil]); first | done | rfl | (simp only [List.length_drop, List.length_take]; rfl)) ?_
               with_reducible refine (arb_And.calls k5 _ _ y243 t246 _ ?side1 ?side2 A97.out).mono ?_
               (case side1 => repeat (first | exact (Kd.R_reads' HO245.out).2.2 | (with_reducible refine Kd.C_alloc ?_ _) | (with_reducible refine Kd.C_drewN ?_ _) | (with_reducible refine Kd.C_drew ?_)))
               (case side2 => exact (Kd.R_reads' HO245.out).2.1)
               rintro e w105 ⟨rfl, hb⟩
               have HS0_ := (hb.cell (World.block_lt_of_cell? _ _ (hHeld.1))).trans (hHeld.1)
               have HS1_ := (hb.cell (World.block_lt_of_cell? _ _ (hHeld.2.1))).trans (hHeld.2.1)
               have HS2_ := (hb.cell (World.block_lt_of_cell? _ _ (hHeld.2.2))).trans (hHeld.2.2)
               refine ⟨_, rfl, ?_⟩
               have n0_ := Aside0.mk (Kd.N_below (by (with_reducible repeat (first | apply Kd.N_alloc | apply Kd.N_drewN | apply Kd.N_drew)); exact HO_6.out) hb)
               have n1_ := Aside0.mk (Kd.R_below (by (with_reducible repeat (first | apply Kd.R_alloc | apply Kd.R_drewN | apply Kd.R_drew)); exact HO_8.out) hb)
               have n2_ := Aside0.mk (Kd.R_below (by (with_reducible repeat (first | apply Kd.R_alloc | apply Kd.R_drewN | apply Kd.R_drew)); exact HO_9.out) hb)
               have n3_ := Aside0.mk (Kd.R_below (by (with_reducible repeat (first | apply Kd.R_alloc | apply Kd.R_drewN | apply Kd.R_drew)); exact HO_10.out) hb)
               have n4_ := Aside0.mk (Kd.V_below (by (with_reducible repeat (first | apply Kd.V_alloc | apply Kd.V_drewN | apply Kd.V_drew)); exact HO_210004.out) hb)
               have n5_ := Aside0.mk (Kd.V_below (by (with_reducible repeat (first | apply Kd.V_alloc | apply Kd.V_drewN | apply Kd.V_drew)); exact HO_211004.out) hb)
               have n6_ := Aside0.mk (Kd.R_below (by (with_reducible repeat (first | apply Kd.R_alloc | apply Kd.R_drewN | apply Kd.R_drew)); exact HO245.out) hb)
               have n7_ := Aside0.mk (blk_below (g := gb209) (o := .cells #[.bool a0_0, .int .i64 a0_1, .bool a0_2, .int .i64 a0_3, .slice A0_4 l0_4.length c0_4] 26 (0, 0)) (by (with_reducible repeat (first | refine blk_drewN ?_ _ | refine blk_drew ?_ | refine blk_alloc ?_ _)); exact BK209.out) hb)
               have n8_ := Aside0.mk (blk_below (g := gb210) (o := .cells #[.bool a1_0, .int .i64 a1_1, .bool a1_2, .int .i64 a1_3, .slice A1_4 l1_4.length c1_4] 26 (0, 0)) (by (with_reducible repeat (first | refine blk_drewN ?_ _ | refine blk_drew ?_ | refine blk_alloc ?_ _)); exact BK210.out) hb)
               have n9_ := Aside0.mk (Kd.C_below (by repeat (first | (with_reducible exact HR230_4.out) | (with_reducible refine Kd.C_alloc ?_ _) | (with_reducible refine Kd.C_drewN ?_ _) | (with_reducible refine Kd.C_drew ?_) | exact HR230_4.out)) hb)
               have n10_ := Aside0.mk (Kd.C_below (by repeat (first | (with_reducible exact HR234_4.out) | (with_reducible refine Kd.C_alloc ?_ _) | (with_reducible refine Kd.C_drewN ?_ _) | (with_reducible refine Kd.C_drew ?_) | exact HR234_4.out)) hb)
               have n11_ := Aside0.mk (below_step (by repeat (first | (with_reducible first | exact HB.out | apply below_alloc | apply pw_below_drewN | apply below_drew1 | refine below_set ?_ GE209.out | refine below_set ?_ GE210.out) | exact HB.out)) hb)
               clear HO_6
               clear HO_8
               clear HO_9
               clear HO_10
               clear HO_210004
               clear HO_211004
               clear HO245
               clear BK209
               clear BK210
               clear HR230_4
               clear HR234_4
               clear HB
               have HO_6 := n0_
               have HO_8 := n1_
               have HO_9 := n2_
               have HO_10 := n3_
               have HO_210004 := n4_
               have HO_211004 := n5_
               have HO245 := n6_
               have BK209 := n7_
               have BK210 := n8_
               have HR230_4 := n9_
               have HR234_4 := n10_
               have HB := n11_
               clear n0_ n1_ n2_ n3_ n4_ n5_ n6_ n7_ n8_ n9_ n10_ n11_
               (try clear hb)
               (try clear hb2)
               (try clear hk)
               (try clear hi)
               refine hK.out _ _ ⟨HS0_, HS1_, HS2_⟩ (fun hHeld => ?_)
               clear hK K
               refine norm_ (a' := ?_) ?_ ?_
               rotate_left
               ·show Act.put _ (some 135) _ = _
                simp only [Act.put, HW.LA, HW.LZ, HW.LS, i64_w, i32_w]
                rfl
               refine pure_ (i := 14) (N := some 140) (v := ?_) (a' := ?_) (HW.tf 15 0) rfl rfl (any_of HT_.out (by kernel_rfl)) (fun _ _ _ h => h) (Or.inl ⟨by rfl, ?_⟩) ?_ ?_
               rotate_left
               ·intro w'
                go_simp
                with_reducible rfl
               rotate_left
               ·simp only [Act.put, HW.LA, HW.LZ, HW.LS, i64_w, i32_w]
                rfl
               refine done_ (done_of HT_.out (by kernel_rfl)) ?_
               try go_wp2
               go_roundg k5
               case measure => have := HJ3.out; have := HJ34.out; have := HJ63.out; have := HJ81.out; have := HK5.out; omega
               case rel => exact ⟨(wrap64 (x12_5 + 1)), (by first | rfl | (simp; done) | (simp [*]; done)), H', ⟨by have := HJ3.out; have := HJ34.out; have := HJ63.out; have := HJ81.out; have := HK5.out; omega⟩, ⟨by (with_reducible repeat (first | apply Kd.N_alloc | apply Kd.N_drewN | apply Kd.N_drew)); exact Kd.N_mono HO_6.out (fun _ hk => ⟨hk.1.1, ⟨hk.1.2.1, ⟨hk.1.2.2.1, ⟨hk.1.2.2.2.1, ⟨hk.1.2.2.2.2.1, hk.1.2.2.2.2.2⟩⟩⟩⟩⟩)⟩, ⟨by (with_reducible repeat (first | apply Kd.R_alloc | apply Kd.R_drewN | apply Kd.R_drew)); exact Kd.R_mono HO_8.out (fun _ hk => ⟨hk.1.1, ⟨hk.1.2.1, hk.1.2.2⟩⟩)⟩, ⟨by (with_reducible repeat (first | apply Kd.R_alloc | apply Kd.R_drewN | apply Kd.R_drew)); exact Kd.R_mono HO_9.out (fun _ hk => ⟨hk.1.1, ⟨hk.1.2.1, hk.1.2.2⟩⟩)⟩, ⟨by (with_reducible repeat (first | apply Kd.R_alloc | apply Kd.R_drewN | apply Kd.R_drew)); exact Kd.R_mono HO_10.out (fun _ hk => ⟨hk.1.1, ⟨hk.1.2.1, hk.1.2.2⟩⟩)⟩, ⟨by (with_reducible repeat (first | apply Kd.V_alloc | apply Kd.V_drewN | apply Kd.V_drew)); exact Kd.V_mono HO_210004.out (fun _ hk => ⟨hk.1.1, ⟨hk.1.2.1, ⟨hk.1.2.2.1, ⟨hk.1.2.2.2.1, ⟨hk.1.2.2.2.2.1, ⟨hk.1.2.2.2.2.2.1, hk.1.2.2.2.2.2.2⟩⟩⟩⟩⟩⟩)⟩, ⟨by (with_reducible repeat (first | apply Kd.V_alloc | apply Kd.V_drewN | apply Kd.V_drew)); exact Kd.V_mono HO_211004.out (fun _ hk => ⟨hk.1.1, ⟨hk.1.2.1, ⟨hk.1.2.2.1, ⟨hk.1.2.2.2.1, ⟨hk.1.2.2.2.2.1, ⟨hk.1.2.2.2.2.2.1, hk.1.2.2.2.2.2.2⟩⟩⟩⟩⟩⟩)⟩, ⟨by (with_reducible repeat (first | refine blk_drewN ?_ _ | refine blk_drew ?_ | refine blk_alloc ?_ _)); exact BK209.out⟩, ⟨by (with_reducible repeat (first | refine blk_drewN ?_ _ | refine blk_drew ?_ | refine blk_alloc ?_ _)); exact BK210.out⟩, ⟨by repeat (first | (with_reducible exact HR230_4.out) | (with_reducible refine Kd.C_alloc ?_ _) | (with_reducible refine Kd.C_drewN ?_ _) | (with_reducible refine Kd.C_drew ?_) | exact HR230_4.out)⟩, ⟨by repeat (first | (with_reducible exact HR234_4.out) | (with_reducible refine Kd.C_alloc ?_ _) | (with_reducible refine Kd.C_drewN ?_ _) | (with_reducible refine Kd.C_drew ?_) | exact HR234_4.out)⟩, ⟨by repeat (first | (with_reducible first | exact HB.out | apply below_alloc | apply pw_below_drewN | apply below_drew1 | refine below_set ?_ GE209.out | refine below_set ?_ GE210.out) | exact HB.out)⟩⟩
              ·rw [if_neg c93] at H
               have c93b0 : decide (x12_5 ≤ x11_63) = false := decide_eq_false c93
               clear c93
               replace H := Option.bind_eq_some_iff.mp H
               obtain ⟨t248, A1060, H⟩ := H
               replace H : (if 0 ≤ (wrap64 (1 - t224)) then (if (wrap64 (1 - t224)) < (t225.length : Int) then (if (wrap64 (1 - t224)) < (y221.length : Int) then ((frame_Rank.f ((rd_T26 y221 (wrap64 (1 - t224))).f0) ((rd_T26 y221 (wrap64 (1 - t224))).f1) ((rd_T26 y221 (wrap64 (1 - t224))).f2) ((rd_T26 y221 (wrap64 (1 - t224))).f3) ((rd_T26 y221 (wrap64 (1 - t224))).f4)).bind fun t253 => (if t211 = true then (if 0 ≤ t224 then (if t224 < (y221.length : Int) then ((frame_Rank.f ((rd_T26 y221 t224).f0) ((rd_T26 y221 t224).f1) ((rd_T26 y221 t224).f2) ((rd_T26 y221 t224).f3) ((rd_T26 y221 t224).f4)).bind fun t257 => ((phaetonref01_Same.f k5 t248 t257).bind fun t260 => (if t260 = true then (if (rd t225 (wrap64 (1 - t224))) ≥ 0 then (if (rd t225 (wrap64 (1 - t224))) < (t253.length : Int) then (if (rd t225 (wrap64 (1 - t224))) < (t248.length : Int) then (if 0 ≤ (rd t225 (wrap64 (1 - t224))) then (if (rd t253 (rd t225 (wrap64 (1 - t224)))) = 1 then (if (rd t248 (rd t225 (wrap64 (1 - t224)))) = 0 then (if (wrap64 ((rd t225 (wrap64 (1 - t224))) + 1)) ≤ x11_63 then (some true) else (none)) else (none)) else (none)) else (none)) else (none)) else (none)) else (none)) else (none)))) else (none)) else (none)) else (none))) else (none)) else (none)) else (none)) = some r := H
               have A106 := Aside0.mk A1060
               clear A1060
               try clear hji60w
               obtain ⟨ji107, hji107⟩ : ∃ j_ : Int, (wrap64 (1 - t224)) = j_ := ⟨_, rfl⟩
               replace H : (if 0 ≤ (ji107) then (if (ji107) < (t225.length : Int) then (if (ji107) < (y221.length : Int) then ((frame_Rank.f ((rd_T26 y221 (ji107)).f0) ((rd_T26 y221 (ji107)).f1) ((rd_T26 y221 (ji107)).f2) ((rd_T26 y221 (ji107)).f3) ((rd_T26 y221 (ji107)).f4)).bind fun t253 => (if t211 = true then (if 0 ≤ t224 then (if t224 < (y221.length : Int) then ((frame_Rank.f ((rd_T26 y221 t224).f0) ((rd_T26 y221 t224).f1) ((rd_T26 y221 t224).f2) ((rd_T26 y221 t224).f3) ((rd_T26 y221 t224).f4)).bind fun t257 => ((phaetonref01_Same.f k5 t248 t257).bind fun t260 => (if t260 = true then (if (rd t225 (ji107)) ≥ 0 then (if (rd t225 (ji107)) < (t253.length : Int) then (if (rd t225 (ji107)) < (t248.length : Int) then (if 0 ≤ (rd t225 (ji107)) then (if (rd t253 (rd t225 (ji107))) = 1 then (if (rd t248 (rd t225 (ji107))) = 0 then (if (wrap64 ((rd t225 (ji107)) + 1)) ≤ x11_63 then (some true) else (none)) else (none)) else (none)) else (none)) else (none)) else (none)) else (none)) else (none)))) else (none)) else (none)) else (none))) else (none)) else (none)) else (none)) = some r := by first | (rw [hji107] at H; exact H) | (simp only [hji107] at H ⊢; exact H)
               (try rw [hji107] at A106)
               have hji107w : (IntKind.i64.wrap (1 - t224)) = ji107 := (i64_w _).trans hji107
               by_cases c108 : 0 ≤ (ji107)
               rotate_left
               ·rw [if_neg c108] at H
                exact absurd H (by simp)
               rw [if_pos c108] at H
               have c108b0 : decide (0 ≤ (ji107)) = true := decide_eq_true c108
               clear c108
               by_cases c109 : (ji107) < (t225.length : Int)
               rotate_left
               ·rw [if_neg c109] at H
                exact absurd H (by simp)
               rw [if_pos c109] at H
               have c109b0 : decide ((ji107) < (t225.length : Int)) = true := decide_eq_true c109
               clear c109
               by_cases c110 : (ji107) < (y221.length : Int)
               rotate_left
               ·rw [if_neg c110] at H
                exact absurd H (by simp)
               rw [if_pos c110] at H
               have c110b0 : decide ((ji107) < (y221.length : Int)) = true := decide_eq_true c110
               clear c110
               replace H := Option.bind_eq_some_iff.mp H
               obtain ⟨t253, A1110, H⟩ := H
               replace H : (if t211 = true then (if 0 ≤ t224 then (if t224 < (y221.length : Int) then ((frame_Rank.f ((rd_T26 y221 t224).f0) ((rd_T26 y221 t224).f1) ((rd_T26 y221 t224).f2) ((rd_T26 y221 t224).f3) ((rd_T26 y221 t224).f4)).bind fun t257 => ((phaetonref01_Same.f k5 t248 t257).bind fun t260 => (if t260 = true then (if (rd t225 (ji107)) ≥ 0 then (if (rd t225 (ji107)) < (t253.length : Int) then (if (rd t225 (ji107)) < (t248.length : Int) then (if 0 ≤ (rd t225 (ji107)) then (if (rd t253 (rd t225 (ji107))) = 1 then (if (rd t248 (rd t225 (ji107))) = 0 then (if (wrap64 ((rd t225 (ji107)) + 1)) ≤ x11_63 then (some true) else (none)) else (none)) else (none)) else (none)) else (none)) else (none)) else (none)) else (none)))) else (none)) else (none)) else (none)) = some r := H
               have A111 := Aside0.mk A1110
               clear A1110
               by_cases c112 : t211 = true
               rotate_left
               ·replace c112 := Bool.eq_false_iff.mpr c112
                subst c112
                have H1 : (none) = some r := by rw [if_neg (show ¬ (false = true) by decide)] at H; exact H
                clear H
                have H := H1
                clear H1
                exact absurd H (by simp)
               subst c112
               have H1 : (if 0 ≤ t224 then (if t224 < (y221.length : Int) then ((frame_Rank.f ((rd_T26 y221 t224).f0) ((rd_T26 y221 t224).f1) ((rd_T26 y221 t224).f2) ((rd_T26 y221 t224).f3) ((rd_T26 y221 t224).f4)).bind fun t257 => ((phaetonref01_Same.f k5 t248 t257).bind fun t260 => (if t260 = true then (if (rd t225 (ji107)) ≥ 0 then (if (rd t225 (ji107)) < (t253.length : Int) then (if (rd t225 (ji107)) < (t248.length : Int) then (if 0 ≤ (rd t225 (ji107)) then (if (rd t253 (rd t225 (ji107))) = 1 then (if (rd t248 (rd t225 (ji107))) = 0 then (if (wrap64 ((rd t225 (ji107)) + 1)) ≤ x11_63 then (some true) else (none)) else (none)) else (none)) else (none)) else (none)) else (none)) else (none)) else (none)))) else (none)) else (none)) = some r := by rw [if_pos rfl] at H; exact H
               clear H
               have H := H1
               clear H1
               by_cases c113 : 0 ≤ t224
               rotate_left
               ·rw [if_neg c113] at H
                exact absurd H (by simp)
               rw [if_pos c113] at H
               have c113b0 : decide (0 ≤ t224) = true := decide_eq_true c113
               clear c113
               by_cases c114 : t224 < (y221.length : Int)
               rotate_left
               ·rw [if_neg c114] at H
                exact absurd H (by simp)
               rw [if_pos c114] at H
               have c114b0 : decide (t224 < (y221.length : Int)) = true := decide_eq_true c114
               clear c114
               replace H := Option.bind_eq_some_iff.mp H
               obtain ⟨t257, A1150, H⟩ := H
               replace H : ((phaetonref01_Same.f k5 t248 t257).bind fun t260 => (if t260 = true then (if (rd t225 (ji107)) ≥ 0 then (if (rd t225 (ji107)) < (t253.length : Int) then (if (rd t225 (ji107)) < (t248.length : Int) then (if 0 ≤ (rd t225 (ji107)) then (if (rd t253 (rd t225 (ji107))) = 1 then (if (rd t248 (rd t225 (ji107))) = 0 then (if (wrap64 ((rd t225 (ji107)) + 1)) ≤ x11_63 then (some true) else (none)) else (none)) else (none)) else (none)) else (none)) else (none)) else (none)) else (none))) = some r := H
               have A115 := Aside0.mk A1150
               clear A1150
               replace H := Option.bind_eq_some_iff.mp H
               obtain ⟨t260, A1160, H⟩ := H
               replace H : (if t260 = true then (if (rd t225 (ji107)) ≥ 0 then (if (rd t225 (ji107)) < (t253.length : Int) then (if (rd t225 (ji107)) < (t248.length : Int) then (if 0 ≤ (rd t225 (ji107)) then (if (rd t253 (rd t225 (ji107))) = 1 then (if (rd t248 (rd t225 (ji107))) = 0 then (if (wrap64 ((rd t225 (ji107)) + 1)) ≤ x11_63 then (some true) else (none)) else (none)) else (none)) else (none)) else (none)) else (none)) else (none)) else (none)) = some r := H
               have A116 := Aside0.mk A1160
               clear A1160
               by_cases c117 : t260 = true
               rotate_left
               ·replace c117 := Bool.eq_false_iff.mpr c117
                subst c117
                have H1 : (none) = some r := by rw [if_neg (show ¬ (false = true) by decide)] at H; exact H
                clear H
                have H := H1
                clear H1
                exact absurd H (by simp)
               subst c117
               have H1 : (if (rd t225 (ji107)) ≥ 0 then (if (rd t225 (ji107)) < (t253.length : Int) then (if (rd t225 (ji107)) < (t248.length : Int) then (if 0 ≤ (rd t225 (ji107)) then (if (rd t253 (rd t225 (ji107))) = 1 then (if (rd t248 (rd t225 (ji107))) = 0 then (if (wrap64 ((rd t225 (ji107)) + 1)) ≤ x11_63 then (some true) else (none)) else (none)) else (none)) else (none)) else (none)) else (none)) else (none)) = some r := by rw [if_pos rfl] at H; exact H
               clear H
               have H := H1
               clear H1
               by_cases c118 : (rd t225 (ji107)) ≥ 0
               rotate_left
               ·rw [if_neg c118] at H
                exact absurd H (by simp)
               rw [if_pos c118] at H
               have c118b0 : decide (0 ≤ (rd t225 (ji107))) = true := decide_eq_true c118
               clear c118
               by_cases c119 : (rd t225 (ji107)) < (t253.length : Int)
               rotate_left
               ·rw [if_neg c119] at H
                exact absurd H (by simp)
               rw [if_pos c119] at H
               have c119b0 : decide ((rd t225 (ji107)) < (t253.length : Int)) = true := decide_eq_true c119
               clear c119
               by_cases c120 : (rd t225 (ji107)) < (t248.length : Int)
               rotate_left
               ·rw [if_neg c120] at H
                exact absurd H (by simp)
               rw [if_pos c120] at H
               have c120b0 : decide ((rd t225 (ji107)) < (t248.length : Int)) = true := decide_eq_true c120
               clear c120
               by_cases c121 : 0 ≤ (rd t225 (ji107))
               rotate_left
               ·rw [if_neg c121] at H
                exact absurd H (by simp)
               rw [if_pos c121] at H
               have c121b0 : decide (0 ≤ (rd t225 (ji107))) = true := decide_eq_true c121
               clear c121
               by_cases c122 : (rd t253 (rd t225 (ji107))) = 1
               rotate_left
               ·rw [if_neg c122] at H
                exact absurd H (by simp)
               rw [if_pos c122] at H
               have c122b0 : ((rd t253 (rd t225 (ji107))) == 1) = true := beq_iff_eq.mpr c122
               have c122b1 : ((rd t253 (rd t225 (ji107))) != 1) = false := bne_eq_false_iff_eq.mpr c122
               clear c122
               by_cases c123 : (rd t248 (rd t225 (ji107))) = 0
               rotate_left
               ·rw [if_neg c123] at H
                exact absurd H (by simp)
               rw [if_pos c123] at H
               have c123b0 : ((rd t248 (rd t225 (ji107))) == 0) = true := beq_iff_eq.mpr c123
               have c123b1 : ((rd t248 (rd t225 (ji107))) != 0) = false := bne_eq_false_iff_eq.mpr c123
               clear c123
               by_cases c124 : (wrap64 ((rd t225 (ji107)) + 1)) ≤ x11_63
               ·rw [if_pos c124] at H
                have c124b0 : decide ((wrap64 ((rd t225 (ji107)) + 1)) ≤ x11_63) = true := decide_eq_true c124
                clear c124
                obtain rfl := Option.some.inj H
                go_wp2_with (first | ((with_reducible refine gate_store (t := 26) (p := 3) rfl ?_); refine HW.store_box5 rfl rfl 26 _ _ rfl rfl rfl BK210.out rfl (by kernel_rfl) rfl rfl rfl rfl rfl ?_; intro w1_ hw1_ hk1_; subst hw1_; have hcb210_0 := (blk_cell hk1_ 0).trans rfl; have hfb210_0 := blk_frozen hk1_ 0; have hcb210_1 := (blk_cell hk1_ 1).trans rfl; have hfb210_1 := blk_frozen hk1_ 1; have hcb210_2 := (blk_cell hk1_ 2).trans rfl; have hfb210_2 := blk_frozen hk1_ 2; have hcb210_3 := (blk_cell hk1_ 3).trans rfl; have hfb210_3 := blk_frozen hk1_ 3; have hcb210_4 := (blk_cell hk1_ 4).trans rfl; have hfb210_4 := blk_frozen hk1_ 4; clear hk1_) | ((with_reducible refine gate_store (t := 26) (p := 2) rfl ?_); refine HW.store_box5 rfl rfl 26 _ _ rfl rfl rfl BK209.out rfl (by kernel_rfl) rfl rfl rfl rfl rfl ?_; intro w1_ hw1_ hk1_; subst hw1_; have hcb209_0 := (blk_cell hk1_ 0).trans rfl; have hfb209_0 := blk_frozen hk1_ 0; have hcb209_1 := (blk_cell hk1_ 1).trans rfl; have hfb209_1 := blk_frozen hk1_ 1; have hcb209_2 := (blk_cell hk1_ 2).trans rfl; have hfb209_2 := blk_frozen hk1_ 2; have hcb209_3 := (blk_cell hk1_ 3).trans rfl; have hfb209_3 := blk_frozen hk1_ 3; have hcb209_4 := (blk_cell hk1_ 4).trans rfl; have hfb209_4 := blk_frozen hk1_ 4; clear hk1_) | ((with_reducible refine gate_callee (f := 15) rfl ?_); refine goesL_ (some 142) rfl rfl Try.func15 (by kernel_rfl) rfl #[.slice (some ad230) y221.length co41] rfl (by (try simp only [List.map_toArray, List.map_cons, List.map_nil]); first | done | rfl | (simp only [List.length_drop, List.length_take]; rfl)) ?_; (with_reducible refine (arb_Line.calls _ _ y221 t248 _ ?side1 ?side2 A106.out).mono ?_); (case side1 => repeat (first | exact (Kd.N_reads' HO_6.out).2.2 | (with_reducible refine Kd.C_alloc ?_ _) | (with_reducible refine Kd.C_drewN ?_ _) | (with_reducible refine Kd.C_drew ?_))); (case side2 => exact (Kd.N_reads' HO_6.out).2.1); rintro e w125 ⟨v249, rfl, ho0, hb⟩; refine ⟨_, rfl, ?_⟩; have n0_ := Aside0.mk (Kd.N_elder' (by (with_reducible repeat (first | apply Kd.N_alloc | apply Kd.N_drewN | apply Kd.N_drew)); exact HO_6.out) (Kd.R_base ho0) hb); have n1_ := Aside0.mk (Kd.R_elder' (by (with_reducible repeat (first | apply Kd.R_alloc | apply Kd.R_drewN | apply Kd.R_drew)); exact HO_8.out) (Kd.R_base ho0) hb); have n2_ := Aside0.mk (Kd.R_elder' (by (with_reducible repeat (first | apply Kd.R_alloc | apply Kd.R_drewN | apply Kd.R_drew)); exact HO_9.out) (Kd.R_base ho0) hb); have n3_ := Aside0.mk (Kd.R_elder' (by (with_reducible repeat (first | apply Kd.R_alloc | apply Kd.R_drewN | apply Kd.R_drew)); exact HO_10.out) (Kd.R_base ho0) hb); have n4_ := Aside0.mk (Kd.V_elder' (by (with_reducible repeat (first | apply Kd.V_alloc | apply Kd.V_drewN | apply Kd.V_drew)); exact HO_210004.out) (Kd.R_base ho0) hb); have n5_ := Aside0.mk (Kd.V_elder' (by (with_reducible repeat (first | apply Kd.V_alloc | apply Kd.V_drewN | apply Kd.V_drew)); exact HO_211004.out) (Kd.R_base ho0) hb); have n6_ := Aside0.mk (Kd.R_lower (Kd.R_new' (Kd.R_new' (Kd.R_new' (Kd.R_newM (M := fun k_ => (w.heap.size ≤ k_)) ho0 (below_size (by repeat (first | (with_reducible first | exact HB.out | apply below_alloc | apply pw_below_drewN | apply below_drew1 | refine below_set ?_ GE209.out | refine below_set ?_ GE210.out) | exact HB.out))) (fun k_ h_ => h_)) (Kd.R_lt (by (with_reducible repeat (first | apply Kd.R_alloc | apply Kd.R_drewN | apply Kd.R_drew)); exact HO_8.out))) (Kd.R_lt (by (with_reducible repeat (first | apply Kd.R_alloc | apply Kd.R_drewN | apply Kd.R_drew)); exact HO_9.out))) (Kd.R_lt (by (with_reducible repeat (first | apply Kd.R_alloc | apply Kd.R_drewN | apply Kd.R_drew)); exact HO_10.out))) (below_size (by repeat (first | (with_reducible first | exact HB.out | apply below_alloc | apply pw_below_drewN | apply below_drew1 | refine below_set ?_ GE209.out | refine below_set ?_ GE210.out) | exact HB.out)))); have n7_ := Aside0.mk (blk_below (g := gb209) (o := .cells #[.bool a0_0, .int .i64 a0_1, .bool a0_2, .int .i64 a0_3, .slice A0_4 l0_4.length c0_4] 26 (0, 0)) (by (with_reducible repeat (first | refine blk_drewN ?_ _ | refine blk_drew ?_ | refine blk_alloc ?_ _)); exact BK209.out) hb); have n8_ := Aside0.mk (blk_below (g := gb210) (o := .cells #[.bool a1_0, .int .i64 a1_1, .bool a1_2, .int .i64 a1_3, .slice A1_4 l1_4.length c1_4] 26 (0, 0)) (by (with_reducible repeat (first | refine blk_drewN ?_ _ | refine blk_drew ?_ | refine blk_alloc ?_ _)); exact BK210.out) hb); have n9_ := Aside0.mk (Kd.C_below (by repeat (first | (with_reducible exact HR230_4.out) | (with_reducible refine Kd.C_alloc ?_ _) | (with_reducible refine Kd.C_drewN ?_ _) | (with_reducible refine Kd.C_drew ?_) | exact HR230_4.out)) hb); have n10_ := Aside0.mk (Kd.C_below (by repeat (first | (with_reducible exact HR234_4.out) | (with_reducible refine Kd.C_alloc ?_ _) | (with_reducible refine Kd.C_drewN ?_ _) | (with_reducible refine Kd.C_drew ?_) | exact HR234_4.out)) hb); have n11_ := Aside0.mk (below_step (by repeat (first | (with_reducible first | exact HB.out | apply below_alloc | apply pw_below_drewN | apply below_drew1 | refine below_set ?_ GE209.out | refine below_set ?_ GE210.out) | exact HB.out)) hb); clear HO_6; clear HO_8; clear HO_9; clear HO_10; clear HO_210004; clear HO_211004; clear BK209; clear BK210; clear HR230_4; clear HR234_4; clear HB; have HO_6 := n0_; have HO_8 := n1_; have HO_9 := n2_; have HO_10 := n3_; have HO_210004 := n4_; have HO_211004 := n5_; have HO250 := n6_; have BK209 := n7_; have BK210 := n8_; have HR230_4 := n9_; have HR234_4 := n10_; have HB := n11_; clear n0_ n1_ n2_ n3_ n4_ n5_ n6_ n7_ n8_ n9_ n10_ n11_; (try clear hb); (try clear hb2); (try clear hk); (try clear hi); (try clear ho0); obtain ⟨Ao126, co126, eo126⟩ := Kd.R_slice HO_8.out; subst eo126; have p251 : 0 ≤ ((ji107) : Int) := of_decide_eq_true (by first | (with_reducible assumption) | assumption); have q251 : (ji107) < (t225.length : Int) := of_decide_eq_true (by first | (with_reducible assumption) | assumption); obtain ⟨ad251, e251, hx251_0⟩ := Kd.at_int (Kd.R_reads' HO_8.out).2.2 (ji107) p251 q251; cases e251; replace p251 := eq_true p251; replace q251 := eq_true q251; have p252 : 0 ≤ ((ji107) : Int) := of_decide_eq_true (by first | (with_reducible assumption) | assumption); have q252 : (ji107) < (y221.length : Int) := of_decide_eq_true (by first | (with_reducible assumption) | assumption); obtain ⟨ad252, A252_4, c252_4, e252, hx252_0, hx252_1, hx252_2, hx252_3, hx252_4, hl252_4, hi252_4⟩ := at_T26 (Kd.N_reads' HO_6.out).2.2 (ji107) p252 q252; obtain rfl : ad230 = ad252 := (by injection e252); obtain ⟨ce252, hce252, hMe252, hcc252⟩ := Kd.N_get HO_6.out z26 (ji107) p252 (by first | exact q252 | exact of_decide_eq_true (by first | (with_reducible assumption) | assumption) | (have e_ := (Kd.N_reads' HO_6.out).1; omega)); obtain ⟨ua252_4, uc252_4, rfl, ul252_4, ge252_4⟩ := k26_openF hMe252; have hv252_4 := hcc252 4 _ rfl; rw [add_field _ _ 4 (by omega)] at hv252_4; replace hv252_4 := Option.some.inj (hv252_4.symm.trans hx252_4); injection hv252_4 with hva_ hvn_ hvc_; rw [hva_] at ge252_4; rw [hvc_] at ul252_4; have HL252_4 := Aside0.mk (show Kd.V (Kd.int .u8) 5 _ w.heap.size _ _ ((rd_T26 y221 (ji107)).f4) from Kd.V_mk ul252_4 ge252_4); clear hva_ hvn_ hvc_ ge252_4 ul252_4; clear hcc252 hce252; have HR252_4 := Aside0.mk hi252_4; have HC252_4 := Aside0.mk hl252_4; clear hi252_4 hl252_4; replace p252 := eq_true p252; replace q252 := eq_true q252) | ((with_reducible refine gate_callee (f := 10) rfl ?_); refine goesL_ (some 153) rfl rfl Try.func10 (by kernel_rfl) rfl #[.agg #[.bool ((rd_T26 y221 (ji107)).f0), .int .i64 ((rd_T26 y221 (ji107)).f1), .bool ((rd_T26 y221 (ji107)).f2), .int .i64 ((rd_T26 y221 (ji107)).f3), .slice A252_4 ((rd_T26 y221 (ji107)).f4).length c252_4]] rfl (by (try simp only [List.map_toArray, List.map_cons, List.map_nil]); first | done | (simp only [hji107]; rfl) | rfl | (simp only [List.length_drop, List.length_take]; rfl)) ?_; (with_reducible refine (frame_Rank.calls ((rd_T26 y221 (ji107)).f0) ((rd_T26 y221 (ji107)).f1) ((rd_T26 y221 (ji107)).f2) ((rd_T26 y221 (ji107)).f3) _ _ ((rd_T26 y221 (ji107)).f4) t253 _ ?side1 ?side2 A111.out).mono ?_); (case side1 => repeat (first | exact (by repeat (first | (with_reducible exact HR252_4.out) | (with_reducible refine Kd.C_alloc ?_ _) | (with_reducible refine Kd.C_drewN ?_ _) | (with_reducible refine Kd.C_drew ?_) | exact HR252_4.out)) | (with_reducible refine Kd.C_alloc ?_ _) | (with_reducible refine Kd.C_drewN ?_ _) | (with_reducible refine Kd.C_drew ?_))); (case side2 => exact HC252_4.out); rintro e w127 ⟨v254, rfl, ho0, hb⟩; refine ⟨_, rfl, ?_⟩; have n0_ := Aside0.mk (Kd.N_elder' (by (with_reducible repeat (first | apply Kd.N_alloc | apply Kd.N_drewN | apply Kd.N_drew)); exact HO_6.out) (Kd.R_base ho0) hb); have n1_ := Aside0.mk (Kd.R_elder' (by (with_reducible repeat (first | apply Kd.R_alloc | apply Kd.R_drewN | apply Kd.R_drew)); exact HO_8.out) (Kd.R_base ho0) hb); have n2_ := Aside0.mk (Kd.R_elder' (by (with_reducible repeat (first | apply Kd.R_alloc | apply Kd.R_drewN | apply Kd.R_drew)); exact HO_9.out) (Kd.R_base ho0) hb); have n3_ := Aside0.mk (Kd.R_elder' (by (with_reducible repeat (first | apply Kd.R_alloc | apply Kd.R_drewN | apply Kd.R_drew)); exact HO_10.out) (Kd.R_base ho0) hb); have n4_ := Aside0.mk (Kd.V_elder' (by (with_reducible repeat (first | apply Kd.V_alloc | apply Kd.V_drewN | apply Kd.V_drew)); exact HO_210004.out) (Kd.R_base ho0) hb); have n5_ := Aside0.mk (Kd.V_elder' (by (with_reducible repeat (first | apply Kd.V_alloc | apply Kd.V_drewN | apply Kd.V_drew)); exact HO_211004.out) (Kd.R_base ho0) hb); have n6_ := Aside0.mk (Kd.R_elder' (by (with_reducible repeat (first | apply Kd.R_alloc | apply Kd.R_drewN | apply Kd.R_drew)); exact HO250.out) (Kd.R_base ho0) hb); have n7_ := Aside0.mk (Kd.V_elder' (by (with_reducible repeat (first | apply Kd.V_alloc | apply Kd.V_drewN | apply Kd.V_drew)); exact HL252_4.out) (Kd.R_base ho0) hb); have n8_ := Aside0.mk (Kd.R_lower (Kd.R_new' (Kd.R_new' (Kd.R_new' (Kd.R_new' (Kd.R_newM (M := fun k_ => (w.heap.size ≤ k_)) ho0 (below_size (by repeat (first | (with_reducible first | exact HB.out | apply below_alloc | apply pw_below_drewN | apply below_drew1 | refine below_set ?_ GE209.out | refine below_set ?_ GE210.out) | exact HB.out))) (fun k_ h_ => h_)) (Kd.R_lt (by (with_reducible repeat (first | apply Kd.R_alloc | apply Kd.R_drewN | apply Kd.R_drew)); exact HO_8.out))) (Kd.R_lt (by (with_reducible repeat (first | apply Kd.R_alloc | apply Kd.R_drewN | apply Kd.R_drew)); exact HO_9.out))) (Kd.R_lt (by (with_reducible repeat (first | apply Kd.R_alloc | apply Kd.R_drewN | apply Kd.R_drew)); exact HO_10.out))) (Kd.R_lt (by (with_reducible repeat (first | apply Kd.R_alloc | apply Kd.R_drewN | apply Kd.R_drew)); exact HO250.out))) (below_size (by repeat (first | (with_reducible first | exact HB.out | apply below_alloc | apply pw_below_drewN | apply below_drew1 | refine below_set ?_ GE209.out | refine below_set ?_ GE210.out) | exact HB.out)))); have n9_ := Aside0.mk (blk_below (g := gb209) (o := .cells #[.bool a0_0, .int .i64 a0_1, .bool a0_2, .int .i64 a0_3, .slice A0_4 l0_4.length c0_4] 26 (0, 0)) (by (with_reducible repeat (first | refine blk_drewN ?_ _ | refine blk_drew ?_ | refine blk_alloc ?_ _)); exact BK209.out) hb); have n10_ := Aside0.mk (blk_below (g := gb210) (o := .cells #[.bool a1_0, .int .i64 a1_1, .bool a1_2, .int .i64 a1_3, .slice A1_4 l1_4.length c1_4] 26 (0, 0)) (by (with_reducible repeat (first | refine blk_drewN ?_ _ | refine blk_drew ?_ | refine blk_alloc ?_ _)); exact BK210.out) hb); have n11_ := Aside0.mk (Kd.C_below (by repeat (first | (with_reducible exact HR230_4.out) | (with_reducible refine Kd.C_alloc ?_ _) | (with_reducible refine Kd.C_drewN ?_ _) | (with_reducible refine Kd.C_drew ?_) | exact HR230_4.out)) hb); have n12_ := Aside0.mk (Kd.C_below (by repeat (first | (with_reducible exact HR234_4.out) | (with_reducible refine Kd.C_alloc ?_ _) | (with_reducible refine Kd.C_drewN ?_ _) | (with_reducible refine Kd.C_drew ?_) | exact HR234_4.out)) hb); have n13_ := Aside0.mk (Kd.C_below (by repeat (first | (with_reducible exact HR252_4.out) | (with_reducible refine Kd.C_alloc ?_ _) | (with_reducible refine Kd.C_drewN ?_ _) | (with_reducible refine Kd.C_drew ?_) | exact HR252_4.out)) hb); have n14_ := Aside0.mk (below_step (by repeat (first | (with_reducible first | exact HB.out | apply below_alloc | apply pw_below_drewN | apply below_drew1 | refine below_set ?_ GE209.out | refine below_set ?_ GE210.out) | exact HB.out)) hb); clear HO_6; clear HO_8; clear HO_9; clear HO_10; clear HO_210004; clear HO_211004; clear HO250; clear HL252_4; clear BK209; clear BK210; clear HR230_4; clear HR234_4; clear HR252_4; clear HB; have HO_6 := n0_; have HO_8 := n1_; have HO_9 := n2_; have HO_10 := n3_; have HO_210004 := n4_; have HO_211004 := n5_; have HO250 := n6_; have HL252_4 := n7_; have HO255 := n8_; have BK209 := n9_; have BK210 := n10_; have HR230_4 := n11_; have HR234_4 := n12_; have HR252_4 := n13_; have HB := n14_; clear n0_ n1_ n2_ n3_ n4_ n5_ n6_ n7_ n8_ n9_ n10_ n11_ n12_ n13_ n14_; (try clear hb); (try clear hb2); (try clear hk); (try clear hi); (try clear ho0); have p256 : 0 ≤ (t224 : Int) := of_decide_eq_true (by first | (with_reducible assumption) | assumption); have q256 : t224 < (y221.length : Int) := of_decide_eq_true (by first | (with_reducible assumption) | assumption); obtain ⟨ad256, A256_4, c256_4, e256, hx256_0, hx256_1, hx256_2, hx256_3, hx256_4, hl256_4, hi256_4⟩ := at_T26 (Kd.N_reads' HO_6.out).2.2 t224 p256 q256; obtain rfl : ad230 = ad256 := (by injection e256); obtain ⟨ce256, hce256, hMe256, hcc256⟩ := Kd.N_get HO_6.out z26 t224 p256 (by first | exact q256 | exact of_decide_eq_true (by first | (with_reducible assumption) | assumption) | (have e_ := (Kd.N_reads' HO_6.out).1; omega)); obtain ⟨ua256_4, uc256_4, rfl, ul256_4, ge256_4⟩ := k26_openF hMe256; have hv256_4 := hcc256 4 _ rfl; rw [add_field _ _ 4 (by omega)] at hv256_4; replace hv256_4 := Option.some.inj (hv256_4.symm.trans hx256_4); injection hv256_4 with hva_ hvn_ hvc_; rw [hva_] at ge256_4; rw [hvc_] at ul256_4; have HL256_4 := Aside0.mk (show Kd.V (Kd.int .u8) 5 _ w.heap.size _ _ ((rd_T26 y221 t224).f4) from Kd.V_mk ul256_4 ge256_4); clear hva_ hvn_ hvc_ ge256_4 ul256_4; clear hcc256 hce256; have HR256_4 := Aside0.mk hi256_4; have HC256_4 := Aside0.mk hl256_4; clear hi256_4 hl256_4; replace p256 := eq_true p256; replace q256 := eq_true q256) | (go_at_call 10; (with_reducible refine (frame_Rank.calls ((rd_T26 y221 t224).f0) ((rd_T26 y221 t224).f1) ((rd_T26 y221 t224).f2) ((rd_T26 y221 t224).f3) _ _ ((rd_T26 y221 t224).f4) t257 _ ?side1 ?side2 A115.out).mono ?_); (case side1 => repeat (first | exact (by repeat (first | (with_reducible exact HR256_4.out) | (with_reducible refine Kd.C_alloc ?_ _) | (with_reducible refine Kd.C_drewN ?_ _) | (with_reducible refine Kd.C_drew ?_) | exact HR256_4.out)) | (with_reducible refine Kd.C_alloc ?_ _) | (with_reducible refine Kd.C_drewN ?_ _) | (with_reducible refine Kd.C_drew ?_))); (case side2 => exact HC256_4.out); rintro e w128 ⟨v258, rfl, ho0, hb⟩; have n0_ := Aside0.mk (Kd.N_elder' (by (with_reducible repeat (first | apply Kd.N_alloc | apply Kd.N_drewN | apply Kd.N_drew)); exact HO_6.out) (Kd.R_base ho0) hb); have n1_ := Aside0.mk (Kd.R_elder' (by (with_reducible repeat (first | apply Kd.R_alloc | apply Kd.R_drewN | apply Kd.R_drew)); exact HO_8.out) (Kd.R_base ho0) hb); have n2_ := Aside0.mk (Kd.R_elder' (by (with_reducible repeat (first | apply Kd.R_alloc | apply Kd.R_drewN | apply Kd.R_drew)); exact HO_9.out) (Kd.R_base ho0) hb); have n3_ := Aside0.mk (Kd.R_elder' (by (with_reducible repeat (first | apply Kd.R_alloc | apply Kd.R_drewN | apply Kd.R_drew)); exact HO_10.out) (Kd.R_base ho0) hb); have n4_ := Aside0.mk (Kd.V_elder' (by (with_reducible repeat (first | apply Kd.V_alloc | apply Kd.V_drewN | apply Kd.V_drew)); exact HO_210004.out) (Kd.R_base ho0) hb); have n5_ := Aside0.mk (Kd.V_elder' (by (with_reducible repeat (first | apply Kd.V_alloc | apply Kd.V_drewN | apply Kd.V_drew)); exact HO_211004.out) (Kd.R_base ho0) hb); have n6_ := Aside0.mk (Kd.R_elder' (by (with_reducible repeat (first | apply Kd.R_alloc | apply Kd.R_drewN | apply Kd.R_drew)); exact HO250.out) (Kd.R_base ho0) hb); have n7_ := Aside0.mk (Kd.V_elder' (by (with_reducible repeat (first | apply Kd.V_alloc | apply Kd.V_drewN | apply Kd.V_drew)); exact HL252_4.out) (Kd.R_base ho0) hb); have n8_ := Aside0.mk (Kd.R_elder' (by (with_reducible repeat (first | apply Kd.R_alloc | apply Kd.R_drewN | apply Kd.R_drew)); exact HO255.out) (Kd.R_base ho0) hb); have n9_ := Aside0.mk (Kd.V_elder' (by (with_reducible repeat (first | apply Kd.V_alloc | apply Kd.V_drewN | apply Kd.V_drew)); exact HL256_4.out) (Kd.R_base ho0) hb); have n10_ := Aside0.mk (Kd.R_lower (Kd.R_new' (Kd.R_new' (Kd.R_new' (Kd.R_new' (Kd.R_new' (Kd.R_newM (M := fun k_ => (w.heap.size ≤ k_)) ho0 (below_size (by repeat (first | (with_reducible first | exact HB.out | apply below_alloc | apply pw_below_drewN | apply below_drew1 | refine below_set ?_ GE209.out | refine below_set ?_ GE210.out) | exact HB.out))) (fun k_ h_ => h_)) (Kd.R_lt (by (with_reducible repeat (first | apply Kd.R_alloc | apply Kd.R_drewN | apply Kd.R_drew)); exact HO_8.out))) (Kd.R_lt (by (with_reducible repeat (first | apply Kd.R_alloc | apply Kd.R_drewN | apply Kd.R_drew)); exact HO_9.out))) (Kd.R_lt (by (with_reducible repeat (first | apply Kd.R_alloc | apply Kd.R_drewN | apply Kd.R_drew)); exact HO_10.out))) (Kd.R_lt (by (with_reducible repeat (first | apply Kd.R_alloc | apply Kd.R_drewN | apply Kd.R_drew)); exact HO250.out))) (Kd.R_lt (by (with_reducible repeat (first | apply Kd.R_alloc | apply Kd.R_drewN | apply Kd.R_drew)); exact HO255.out))) (below_size (by repeat (first | (with_reducible first | exact HB.out | apply below_alloc | apply pw_below_drewN | apply below_drew1 | refine below_set ?_ GE209.out | refine below_set ?_ GE210.out) | exact HB.out)))); have n11_ := Aside0.mk (blk_below (g := gb209) (o := .cells #[.bool a0_0, .int .i64 a0_1, .bool a0_2, .int .i64 a0_3, .slice A0_4 l0_4.length c0_4] 26 (0, 0)) (by (with_reducible repeat (first | refine blk_drewN ?_ _ | refine blk_drew ?_ | refine blk_alloc ?_ _)); exact BK209.out) hb); have n12_ := Aside0.mk (blk_below (g := gb210) (o := .cells #[.bool a1_0, .int .i64 a1_1, .bool a1_2, .int .i64 a1_3, .slice A1_4 l1_4.length c1_4] 26 (0, 0)) (by (with_reducible repeat (first | refine blk_drewN ?_ _ | refine blk_drew ?_ | refine blk_alloc ?_ _)); exact BK210.out) hb); have n13_ := Aside0.mk (Kd.C_below (by repeat (first | (with_reducible exact HR230_4.out) | (with_reducible refine Kd.C_alloc ?_ _) | (with_reducible refine Kd.C_drewN ?_ _) | (with_reducible refine Kd.C_drew ?_) | exact HR230_4.out)) hb); have n14_ := Aside0.mk (Kd.C_below (by repeat (first | (with_reducible exact HR234_4.out) | (with_reducible refine Kd.C_alloc ?_ _) | (with_reducible refine Kd.C_drewN ?_ _) | (with_reducible refine Kd.C_drew ?_) | exact HR234_4.out)) hb); have n15_ := Aside0.mk (Kd.C_below (by repeat (first | (with_reducible exact HR252_4.out) | (with_reducible refine Kd.C_alloc ?_ _) | (with_reducible refine Kd.C_drewN ?_ _) | (with_reducible refine Kd.C_drew ?_) | exact HR252_4.out)) hb); have n16_ := Aside0.mk (Kd.C_below (by repeat (first | (with_reducible exact HR256_4.out) | (with_reducible refine Kd.C_alloc ?_ _) | (with_reducible refine Kd.C_drewN ?_ _) | (with_reducible refine Kd.C_drew ?_) | exact HR256_4.out)) hb); have n17_ := Aside0.mk (below_step (by repeat (first | (with_reducible first | exact HB.out | apply below_alloc | apply pw_below_drewN | apply below_drew1 | refine below_set ?_ GE209.out | refine below_set ?_ GE210.out) | exact HB.out)) hb); clear HO_6; clear HO_8; clear HO_9; clear HO_10; clear HO_210004; clear HO_211004; clear HO250; clear HL252_4; clear HO255; clear HL256_4; clear BK209; clear BK210; clear HR230_4; clear HR234_4; clear HR252_4; clear HR256_4; clear HB; have HO_6 := n0_; have HO_8 := n1_; have HO_9 := n2_; have HO_10 := n3_; have HO_210004 := n4_; have HO_211004 := n5_; have HO250 := n6_; have HL252_4 := n7_; have HO255 := n8_; have HL256_4 := n9_; have HO259 := n10_; have BK209 := n11_; have BK210 := n12_; have HR230_4 := n13_; have HR234_4 := n14_; have HR252_4 := n15_; have HR256_4 := n16_; have HB := n17_; clear n0_ n1_ n2_ n3_ n4_ n5_ n6_ n7_ n8_ n9_ n10_ n11_ n12_ n13_ n14_ n15_ n16_ n17_; (try clear hb); (try clear hb2); (try clear hk); (try clear hi); (try clear ho0); obtain ⟨Ao129, co129, eo129⟩ := Kd.R_slice HO250.out; subst eo129; obtain ⟨Ao130, co130, eo130⟩ := Kd.R_slice HO259.out; subst eo130) | (go_at_call 9; (with_reducible refine (phaetonref01_Same.calls k5 _ _ t248 _ _ t257 true _ ?side1 ?side2 ?side3 ?side4 A116.out).mono ?_); (case side1 => repeat (first | exact (Kd.R_reads' HO250.out).2.2 | (with_reducible refine Kd.C_alloc ?_ _) | (with_reducible refine Kd.C_drewN ?_ _) | (with_reducible refine Kd.C_drew ?_))); (case side2 => exact (Kd.R_reads' HO250.out).2.1); (case side3 => repeat (first | exact (Kd.R_reads' HO259.out).2.2 | (with_reducible refine Kd.C_alloc ?_ _) | (with_reducible refine Kd.C_drewN ?_ _) | (with_reducible refine Kd.C_drew ?_))); (case side4 => exact (Kd.R_reads' HO259.out).2.1); rintro e w' ⟨rfl, ⟨nd, rfl⟩⟩; obtain ⟨Ao131, co131, eo131⟩ := Kd.R_slice HO255.out; subst eo131; have p261 : 0 ≤ ((rd t225 (ji107)) : Int) := of_decide_eq_true (by first | (with_reducible assumption) | assumption); have q261 : (rd t225 (ji107)) < (t253.length : Int) := of_decide_eq_true (by first | (with_reducible assumption) | assumption); obtain ⟨ad261, e261, hx261_0⟩ := Kd.at_int (Kd.R_reads' HO255.out).2.2 (rd t225 (ji107)) p261 q261; cases e261; replace p261 := eq_true p261; replace q261 := eq_true q261; have p262 : 0 ≤ ((rd t225 (ji107)) : Int) := of_decide_eq_true (by first | (with_reducible assumption) | assumption); have q262 : (rd t225 (ji107)) < (t248.length : Int) := of_decide_eq_true (by first | (with_reducible assumption) | assumption); obtain ⟨ad262, e262, hx262_0⟩ := Kd.at_int (Kd.R_reads' HO250.out).2.2 (rd t225 (ji107)) p262 q262; cases e262; replace p262 := eq_true p262; replace q262 := eq_true q262))
                go_ret
                exact ⟨by first | rfl | (simp [errW_none, errW_some] <;> rfl) | (simp only [← hji60, ← hji107]; first | rfl | (simp [errW_none, errW_some] <;> rfl)) | (simp [*, errW_none, errW_some] <;> rfl), by repeat (first | (with_reducible first | exact HB.out | apply below_alloc | apply pw_below_drewN | apply below_drew1 | refine below_set ?_ GE209.out | refine below_set ?_ GE210.out) | exact HB.out)⟩
               ·rw [if_neg c124] at H
                exact absurd H (by simp)
/-- THE ONE PURE STATEMENT of phaetontop_TopLine. -/
def phaetontop_TopLine.Pure : Prop := ∀ (a0_0 : Bool) (a0_1 : Int) (a0_2 : Bool) (a0_3 : Int) (l0_4 : List Int) (a1_0 : Bool) (a1_1 : Int) (a1_2 : Bool) (a1_3 : Int) (l1_4 : List Int), (Lit.int .i64 a0_1).wf = true → (Lit.int .i64 a0_3).wf = true → l0_4.length ≤ maxLen → (∀ x ∈ l0_4, (fun (x : Int) => (Lit.int .u8 x).wf = true) x) → (Lit.int .i64 a1_1).wf = true → (Lit.int .i64 a1_3).wf = true → l1_4.length ≤ maxLen → (∀ x ∈ l1_4, (fun (x : Int) => (Lit.int .u8 x).wf = true) x) → ∃ k, phaetontop_TopLine.f k a0_0 a0_1 a0_2 a0_3 l0_4 a1_0 a1_1 a1_2 a1_3 l1_4 = some true
theorem phaetontop_TopLine.walk (P : phaetontop_TopLine.Pure) (a0_0 : Bool) (a0_1 : Int) (a0_2 : Bool) (a0_3 : Int) (A0_4 : Option Addr) (c0_4 : Nat) (l0_4 : List Int) (a1_0 : Bool) (a1_1 : Int) (a1_2 : Bool) (a1_3 : Int) (A1_4 : Option Addr) (c1_4 : Nat) (l1_4 : List Int) (w : World) (hw0_1 : (Lit.int .i64 a0_1).wf = true) (hw0_3 : (Lit.int .i64 a0_3).wf = true) (hw0_4 : ∀ x ∈ l0_4, (fun (x : Int) => (Lit.int .u8 x).wf = true) x) (hr0_4 : Kd.C (Kd.int .u8) w A0_4 l0_4.length l0_4) (hc0_4 : l0_4.length ≤ c0_4) (hw1_1 : (Lit.int .i64 a1_1).wf = true) (hw1_3 : (Lit.int .i64 a1_3).wf = true) (hw1_4 : ∀ x ∈ l1_4, (fun (x : Int) => (Lit.int .u8 x).wf = true) x) (hr1_4 : Kd.C (Kd.int .u8) w A1_4 l1_4.length l1_4) (hc1_4 : l1_4.length ≤ c1_4) :
  Calls Try.prog 4 #[.agg #[.bool a0_0, .int .i64 a0_1, .bool a0_2, .int .i64 a0_3, .slice A0_4 l0_4.length c0_4], .agg #[.bool a1_0, .int .i64 a1_1, .bool a1_2, .int .i64 a1_3, .slice A1_4 l1_4.length c1_4]] w fun e w' => e = .returned (.bool true) ∧ Below w.heap.size w w' := by
 obtain ⟨k, h⟩ := P a0_0 a0_1 a0_2 a0_3 l0_4 a1_0 a1_1 a1_2 a1_3 l1_4 hw0_1 hw0_3 (by have := hr0_4.2.1; unfold maxLen; omega) hw0_4 hw1_1 hw1_3 (by have := hr1_4.2.1; unfold maxLen; omega) hw1_4
 refine (phaetontop_TopLine.calls k a0_0 a0_1 a0_2 a0_3 (fun _ => True) _ _ l0_4 a1_0 a1_1 a1_2 a1_3 (fun _ => True) _ _ l1_4 true w (Kd.V_mk hc0_4 (HW.F_of_C hr0_4)) (Kd.V_mk hc1_4 (HW.F_of_C hr1_4)) h).mono ?_
 rintro e w' ⟨rfl, hd⟩
 exact ⟨rfl, hd⟩

end Go.Proofs.Ytechlakahpkdpaa.Px

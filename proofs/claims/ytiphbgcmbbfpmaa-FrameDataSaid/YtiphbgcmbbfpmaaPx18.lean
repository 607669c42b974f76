-- Written by myprint.py, a program of this session's, over the kit's print.py; not a text of print.sh's own.
import Derived.Test.YtiphbgcmbbfpmaaHandCarry
import Derived.Test.YtiphbgcmbbfpmaaHandBox
import Derived.Test.YtiphbgcmbbfpmaaPx0
import Derived.Test.YtiphbgcmbbfpmaaPx1
import Derived.Test.YtiphbgcmbbfpmaaPx2
import Derived.Test.YtiphbgcmbbfpmaaPx6
import Derived.Test.YtiphbgcmbbfpmaaPx7
import Derived.Test.YtiphbgcmbbfpmaaPx8
namespace Go.Proofs.Ytiphbgcmbbfpmaa.Px
open Go.RowKit Go.Proofs.YtiphbgcmbbfpmaaW.PrintWords Go.Proofs.YtiphbgcmbbfpmaaW.PrintLast Go.Proofs.YtiphbgcmbbfpmaaW.PrintMore
attribute [local go_sem] max2_int min2_int max_two min_two max_three min_three max_four min_four   -- for this text's walks alone
set_option linter.unusedVariables false
set_option linter.unusedSimpArgs false

/-! ### phaetonlaw04_FrameData: function 9 -/
def phaetonlaw04_FrameData.j0 : Nat → List Int → Bool → Bool → Bool → Int → Bool → Int → List Int → Option (Bool)
  | 0, _, _, _, _, _, _, _, _ => none
  | k + 1, x1, x5, x33, x571000, x571001, x571002, x571003, x571004 => if x33 = true then (if x5 = true then (some true) else (none)) else (if 0 ≤ x571003 then (if x571003 ≤ (x1.length : Int) then ((frame_Head.f x571000 x571001 x571002 x571003 x571004).bind fun t576 => ((frame_Head.f x571000 x571001 x571002 x571003 (x1.take (x571003 : Int).toNat)).bind fun t579 => (if x5 = true then (if (wrap64 ((t576.length : Int) - (wrap64 (8 * x571003)))) > 0 then (if (t576.length : Int) = (t579.length : Int) then (if 0 ≤ (wrap64 ((t576.length : Int) - (wrap64 (8 * x571003)))) then (if (wrap64 ((t576.length : Int) - (wrap64 (8 * x571003)))) ≤ (t576.length : Int) then (if (wrap64 ((t576.length : Int) - (wrap64 (8 * x571003)))) ≤ (t579.length : Int) then ((phaetonref01_Same.f k (t576.take ((wrap64 ((t576.length : Int) - (wrap64 (8 * x571003)))) : Int).toNat) (t579.take ((wrap64 ((t576.length : Int) - (wrap64 (8 * x571003)))) : Int).toNat)).bind fun t590 => (if t590 = true then ((phaetonref01_Spread.f k x571004).bind fun t595 => ((phaetonref01_Same.f k (t576.drop ((wrap64 ((t576.length : Int) - (wrap64 (8 * x571003)))) : Int).toNat) t595).bind fun t598 => (if t598 = true then ((phaetonref01_Spread.f k (x1.take (x571003 : Int).toNat)).bind fun t603 => ((phaetonref01_Same.f k (t579.drop ((wrap64 ((t576.length : Int) - (wrap64 (8 * x571003)))) : Int).toNat) t603).bind fun t606 => (if t606 = true then ((frame_Rank.f x571000 x571001 x571002 x571003 x571004).bind fun t607 => ((frame_Rank.f x571000 x571001 x571002 x571003 (x1.take (x571003 : Int).toNat)).bind fun t610 => ((phaetonref01_Same.f k t607 t610).bind fun t613 => (if t613 = true then ((frame_Same.f x571000 x571001 x571002 x571003 x571004 x571000 x571001 x571002 x571003 (x1.take (x571003 : Int).toNat)).bind fun t614 => ((phaetonref01_SameBytes.f x571004 (x1.take (x571003 : Int).toNat)).bind fun t615 => (if (t614 == t615) = true then (some true) else (none)))) else (none))))) else (none)))) else (none)))) else (none))) else (none)) else (none)) else (none)) else (none)) else (none)) else (none)))) else (none)) else (none))
def phaetonlaw04_FrameData.f (k : Nat) (a0_0 : Bool) (a0_1 : Int) (a0_2 : Bool) (a0_3 : Int) (l0_4 : List Int) (l1 : List Int) : Option (Bool) := (phaetonlaw04_head.f k).bind fun t571 => ((phaetonlaw04_Great.f a0_0 a0_1 a0_2 a0_3 l0_4).bind fun t572 => (if t572 = true then (phaetonlaw04_FrameData.j0 k l1 t571 true a0_0 a0_1 a0_2 a0_3 l0_4) else ((phaetonref04_Right.f k a0_0 a0_1 a0_2 a0_3 l0_4).bind fun t573 => (if t573 = true then (if a0_2 = true then (phaetonlaw04_FrameData.j0 k l1 t571 true a0_0 a0_1 a0_2 a0_3 l0_4) else (if (l1.length : Int) < a0_3 then (phaetonlaw04_FrameData.j0 k l1 t571 true a0_0 a0_1 a0_2 a0_3 l0_4) else (phaetonlaw04_FrameData.j0 k l1 t571 (decide ((l1.length : Int) > 100)) a0_0 a0_1 a0_2 a0_3 l0_4))) else (phaetonlaw04_FrameData.j0 k l1 t571 true a0_0 a0_1 a0_2 a0_3 l0_4)))))
theorem phaetonlaw04_FrameData.mono_l : ∀ k, (∀ y0 y1 y2 y3 y4 y5 y6 y7, LeO (phaetonlaw04_FrameData.j0 k y0 y1 y2 y3 y4 y5 y6 y7) (phaetonlaw04_FrameData.j0 (k + 1) y0 y1 y2 y3 y4 y5 y6 y7))
  | 0 => fun _ _ _ _ _ _ _ _ r h => by simp [phaetonlaw04_FrameData.j0] at h
  | k + 1 => by
    have ih0 := phaetonlaw04_FrameData.mono_l k
    · intro y0 y1 y2 y3 y4 y5 y6 y7
      unfold phaetonlaw04_FrameData.j0
      repeat' first
      | (with_reducible exact ih0 _ _ _ _ _ _ _ _)
      | (with_reducible exact phaetonlaw04_head.mono _)
      | (with_reducible exact phaetonref01_Same.mono _ _ _)
      | (with_reducible exact phaetonref01_Spread.mono _ _)
      | (with_reducible exact phaetonref04_Right.mono _ _ _ _ _ _)
      | (with_reducible exact LeO.refl _)
      | (with_reducible exact LeO.none _)
      | (with_reducible refine LeO.ite ?_ ?_)
      | (with_reducible refine LeO.bind ?_ (fun _ => ?_))
      | exact ih0 _ _ _ _ _ _ _ _
      | exact phaetonlaw04_head.mono _
      | exact phaetonref01_Same.mono _ _ _
      | exact phaetonref01_Spread.mono _ _
      | exact phaetonref04_Right.mono _ _ _ _ _ _
      | exact LeO.none _
      | refine LeO.ite ?_ ?_
      | refine LeO.bind ?_ (fun _ => ?_)
theorem phaetonlaw04_FrameData.mono : ∀ a0 a1 a2 a3 a4 a5 k, LeO (phaetonlaw04_FrameData.f k a0 a1 a2 a3 a4 a5) (phaetonlaw04_FrameData.f (k + 1) a0 a1 a2 a3 a4 a5) := by
  intro a0 a1 a2 a3 a4 a5 k
  have ih0 := phaetonlaw04_FrameData.mono_l k
  unfold phaetonlaw04_FrameData.f
  repeat' first
      | (with_reducible exact ih0 _ _ _ _ _ _ _ _)
      | (with_reducible exact phaetonlaw04_head.mono _)
      | (with_reducible exact phaetonref01_Same.mono _ _ _)
      | (with_reducible exact phaetonref01_Spread.mono _ _)
      | (with_reducible exact phaetonref04_Right.mono _ _ _ _ _ _)
      | (with_reducible exact LeO.refl _)
      | (with_reducible exact LeO.none _)
      | (with_reducible refine LeO.ite ?_ ?_)
      | (with_reducible refine LeO.bind ?_ (fun _ => ?_))
      | exact ih0 _ _ _ _ _ _ _ _
      | exact phaetonlaw04_head.mono _
      | exact phaetonref01_Same.mono _ _ _
      | exact phaetonref01_Spread.mono _ _
      | exact phaetonref04_Right.mono _ _ _ _ _ _
      | exact LeO.none _
      | refine LeO.ite ?_ ?_
      | refine LeO.bind ?_ (fun _ => ?_)
def phaetonlaw04_FrameData.T9 : Bool × List (List Nat × List Nat) := (true, [([], []), ([0], [0]), ([1], [1]), ([2, 1], [1, 2]), ([1, 3], [1, 3]), ([4, 1], [4]), ([5], [5]), ([6, 5], [5, 6]), ([5], [5]), ([8, 5], [5, 8]), ([7, 9, 5], [5, 7, 9]), ([5, 10], [5, 10]), ([11, 5], [11]), ([12], [12]), ([12], [12]), ([13, 14, 12], [12, 13, 14]), ([12], [12]), ([12], [12]), ([16, 17, 12], [12, 16, 17]), ([15, 18, 12, 12], [12, 15, 18]), ([12, 19], [12, 19]), ([20, 19], [20]), ([21], [21]), ([21], [21]), ([22, 23, 21], [21, 22, 23]), ([21], [21]), ([25, 21], [21, 25]), ([26, 21, 21], [21, 26]), ([24, 27, 27, 21], [21, 24, 27]), ([21, 28], [21, 28]), ([29, 28], [29]), ([30], [30]), ([30], [30]), ([31, 32, 30], [30, 31, 32]), ([30], [30]), ([34, 30], [30, 34]), ([35, 30, 30], [30, 35]), ([33, 36, 36, 30], [30, 33, 36]), ([30, 37], [30, 37]), ([38, 37], [38]), ([39], [39]), ([40, 39, 39], [39, 40]), ([39], [39]), ([42, 41, 39], [39, 42]), ([41, 43, 43, 39], [39, 41, 43]), ([39, 44], [39, 44]), ([45, 44], [45]), ([46], [46]), ([46], [46]), ([47, 48, 46, 46], [46, 47, 48]), ([46], [46]), ([50, 46], [46, 50]), ([46], [46]), ([52, 46], [46, 52]), ([51, 53, 49, 46], [46, 51, 53]), ([49, 54, 46], [46, 49, 54]), ([46, 55], [46, 55]), ([56, 54, 0, 1, 2, 3, 4, 5, 6, 7, 8, 9, 10, 11, 12, 13, 14, 15, 16, 17, 18, 19, 20, 21, 22, 23, 24, 25, 26, 27, 28, 29, 30, 31, 32, 33, 34, 35, 36, 37, 38, 39, 40, 41, 42, 43, 44, 45, 46, 47, 48, 49, 50, 51, 52, 53, 54, 55, 56], [56])])
def phaetonlaw04_FrameData.B9 : List Nat := [0, 1, 3, 7, 15, 31, 63, 127, 63, 319, 1023, 2047, 4095, 8191, 8191, 32767, 8191, 8191, 204799, 524287, 1048575, 2097151, 4194303, 4194303, 16777215, 4194303, 37748735, 104857599, 268435455, 536870911, 1073741823, 2147483647, 2147483647, 8589934591, 2147483647, 19327352831, 53687091199, 137438953471, 274877906943, 549755813887, 1099511627775, 2199023255551, 1099511627775, 8796093022207, 17592186044415, 35184372088831, 70368744177663, 140737488355327, 140737488355327, 562949953421311, 140737488355327, 1266637395197951, 140737488355327, 4644337115725823, 18014398509481983, 36028797018963967, 72057594037927935, 144115188075855871]
theorem phaetonlaw04_FrameData.tab9 : rtab .any (opsOf Try.f9 9) = phaetonlaw04_FrameData.T9 := by kernel_rfl
theorem phaetonlaw04_FrameData.bits9 : waitsOk phaetonlaw04_FrameData.T9.2 phaetonlaw04_FrameData.B9 = true := by kernel_rfl
set_option maxHeartbeats 8000000 in
set_option maxRecDepth 100000 in
theorem phaetonlaw04_FrameData.calls (k : Nat) (a0_0 : Bool) (a0_1 : Int) (a0_2 : Bool) (a0_3 : Int) (A0_4 : Option Addr) (c0_4 : Nat) (l0_4 : List Int) (A1 : Option Addr) (c1 : Nat) (l1 : List Int) (r : Bool) (w : World) (hr0_4 : Kd.C (Kd.int .u8) w A0_4 l0_4.length l0_4) (hc0_4 : l0_4.length ≤ c0_4) (hr1 : Kd.C (Kd.int .u8) w A1 l1.length l1) (hc1 : l1.length ≤ c1) (h : phaetonlaw04_FrameData.f k a0_0 a0_1 a0_2 a0_3 l0_4 l1 = some r) :
    Calls Try.prog 9 #[.agg #[.bool a0_0, .int .i64 a0_1, .bool a0_2, .int .i64 a0_3, .slice A0_4 l0_4.length c0_4], .slice A1 l1.length c1] w fun e w' => e = .returned (.bool r) ∧ Below w.heap.size w w' := by
  have hu24 := Try.underlying24
  have HR0_4 := Aside0.mk hr0_4
  have HC0_4 := Aside0.mk hc0_4
  clear hr0_4 hc0_4
  have HR1 := Aside0.mk hr1
  have HC1 := Aside0.mk hc1
  clear hr1 hc1
  have HB := Aside0.mk (Below.refl w.heap.size w)
  have H : ((phaetonlaw04_head.f k).bind fun t571 => ((phaetonlaw04_Great.f a0_0 a0_1 a0_2 a0_3 l0_4).bind fun t572 => (if t572 = true then (phaetonlaw04_FrameData.j0 k l1 t571 true a0_0 a0_1 a0_2 a0_3 l0_4) else ((phaetonref04_Right.f k a0_0 a0_1 a0_2 a0_3 l0_4).bind fun t573 => (if t573 = true then (if a0_2 = true then (phaetonlaw04_FrameData.j0 k l1 t571 true a0_0 a0_1 a0_2 a0_3 l0_4) else (if (l1.length : Int) < a0_3 then (phaetonlaw04_FrameData.j0 k l1 t571 true a0_0 a0_1 a0_2 a0_3 l0_4) else (phaetonlaw04_FrameData.j0 k l1 t571 (decide ((l1.length : Int) > 100)) a0_0 a0_1 a0_2 a0_3 l0_4))) else (phaetonlaw04_FrameData.j0 k l1 t571 true a0_0 a0_1 a0_2 a0_3 l0_4)))))) = some r := h
  clear h
  replace H := Option.bind_eq_some_iff.mp H
  obtain ⟨t571, A30, H⟩ := H
  replace H : ((phaetonlaw04_Great.f a0_0 a0_1 a0_2 a0_3 l0_4).bind fun t572 => (if t572 = true then (phaetonlaw04_FrameData.j0 k l1 t571 true a0_0 a0_1 a0_2 a0_3 l0_4) else ((phaetonref04_Right.f k a0_0 a0_1 a0_2 a0_3 l0_4).bind fun t573 => (if t573 = true then (if a0_2 = true then (phaetonlaw04_FrameData.j0 k l1 t571 true a0_0 a0_1 a0_2 a0_3 l0_4) else (if (l1.length : Int) < a0_3 then (phaetonlaw04_FrameData.j0 k l1 t571 true a0_0 a0_1 a0_2 a0_3 l0_4) else (phaetonlaw04_FrameData.j0 k l1 t571 (decide ((l1.length : Int) > 100)) a0_0 a0_1 a0_2 a0_3 l0_4))) else (phaetonlaw04_FrameData.j0 k l1 t571 true a0_0 a0_1 a0_2 a0_3 l0_4))))) = some r := H
  have A3 := Aside0.mk A30
  clear A30
  have HC4 := Aside0.mk H
  clear H
  go_enter Try.func9, Try.ntmps9
  (try simp only [List.append])
  go_upto_region 2 with (first | ((with_reducible refine gate_dst (N := 2) rfl ?_); (try (refine gate_guard (by rfl) ?_; dsimp only)); refine box_event ?hg (N := 2) ?hd (cs := #[.bool a0_0, .int .i64 a0_1, .bool a0_2, .int .i64 a0_3, .slice A0_4 l0_4.length c0_4]) (t := 24) ?hr ?_; (case hd => rfl); (case hg => rfl); (case hr => first | (go_simp; done) | (go_simp; rfl)); intro gb570 hg w5 hbox hb; have n0_ := Aside0.mk (below_step (by repeat (first | (with_reducible first | exact HB.out | apply below_alloc | apply pw_below_drewN | apply below_drew1) | exact HB.out)) hb); have n1_ := Aside0.mk (hbox); have n2_ := Aside0.mk ((by rw [hg]; exact (below_size (by repeat (first | (with_reducible first | exact HB.out | apply below_alloc | apply pw_below_drewN | apply below_drew1) | exact HB.out))) : w.heap.size ≤ gb570)); have n3_ := Aside0.mk ((by rw [hg]; exact (below_size (by repeat (first | (with_reducible first | exact HB.out | apply below_alloc | apply pw_below_drewN | apply below_drew1) | exact HB.out))) : w.heap.size ≤ gb570)); clear HB; have HB := n0_; have BK570 := n1_; have GW570 := n2_; have GE570 := n3_; clear n0_ n1_ n2_ n3_; clear hb hbox hg) | ((with_reducible refine gate_callee (f := 10) rfl ?_); refine goesL_ (some 10) rfl rfl Try.func10 (by kernel_rfl) rfl #[] rfl (by (try simp only [List.map_toArray, List.map_cons, List.map_nil]); first | done | rfl | (simp only [List.length_drop, List.length_take]; rfl)) ?_; (with_reducible refine (phaetonlaw04_head.calls k  t571 _ A3.out).mono ?_); rintro e w6 ⟨rfl, hb⟩; refine ⟨_, rfl, ?_⟩; have n0_ := Aside0.mk (blk_below (g := gb570) (o := .cells #[.bool a0_0, .int .i64 a0_1, .bool a0_2, .int .i64 a0_3, .slice A0_4 l0_4.length c0_4] 24 (0, 0)) (by (with_reducible repeat (first | refine blk_drewN ?_ _ | refine blk_drew ?_ | refine blk_alloc ?_ _)); exact BK570.out) hb); have n1_ := Aside0.mk (below_step (by repeat (first | (with_reducible first | exact HB.out | apply below_alloc | apply pw_below_drewN | apply below_drew1 | refine below_set ?_ GE570.out) | exact HB.out)) hb); clear BK570; clear HB; have BK570 := n0_; have HB := n1_; clear n0_ n1_; (try clear hb); (try clear hb2); (try clear hk); (try clear hi)))
  (try simp only [Act.put, List.setIfInBounds_toArray, List.set_cons_zero, List.set_cons_succ])
  go_cut [33] (fun v33 wc => ∃ (kq : Nat) (x33_3 : Bool), v33 = .bool x33_3 ∧ Aside0 (phaetonlaw04_FrameData.j0 kq l1 t571 x33_3 a0_0 a0_1 a0_2 a0_3 l0_4 = some r) ∧ Aside0 (kq ≤ k) ∧ Aside0 (wc.heap[gb570]? = some (.cells #[.bool a0_0, .int .i64 a0_1, .bool a0_2, .int .i64 a0_3, (.slice A0_4 l0_4.length c0_4)] 24 (0, 0))) ∧ Aside0 (Below w.heap.size w wc))
  case first =>
    have H := HC4.out
    clear HC4
    replace H := Option.bind_eq_some_iff.mp H
    obtain ⟨t572, A70, H⟩ := H
    replace H : (if t572 = true then (phaetonlaw04_FrameData.j0 k l1 t571 true a0_0 a0_1 a0_2 a0_3 l0_4) else ((phaetonref04_Right.f k a0_0 a0_1 a0_2 a0_3 l0_4).bind fun t573 => (if t573 = true then (if a0_2 = true then (phaetonlaw04_FrameData.j0 k l1 t571 true a0_0 a0_1 a0_2 a0_3 l0_4) else (if (l1.length : Int) < a0_3 then (phaetonlaw04_FrameData.j0 k l1 t571 true a0_0 a0_1 a0_2 a0_3 l0_4) else (phaetonlaw04_FrameData.j0 k l1 t571 (decide ((l1.length : Int) > 100)) a0_0 a0_1 a0_2 a0_3 l0_4))) else (phaetonlaw04_FrameData.j0 k l1 t571 true a0_0 a0_1 a0_2 a0_3 l0_4)))) = some r := H
    have A7 := Aside0.mk A70
    clear A70
    by_cases c8 : t572 = true
    · subst c8
      have H1 : (phaetonlaw04_FrameData.j0 k l1 t571 true a0_0 a0_1 a0_2 a0_3 l0_4) = some r := by rw [if_pos rfl] at H; exact H
      clear H
      have H := H1
      clear H1
      have H' := Aside0.mk H
      clear H
      have hcz9_0 : w6.cell? ⟨gb570, 0, none⟩ = some (.bool a0_0) := (blk_cell BK570.out 0).trans rfl
      have hcz9_1 : w6.cell? ⟨gb570, 1, none⟩ = some (.int .i64 a0_1) := (blk_cell BK570.out 1).trans rfl
      have hcz9_2 : w6.cell? ⟨gb570, 2, none⟩ = some (.bool a0_2) := (blk_cell BK570.out 2).trans rfl
      have hcz9_3 : w6.cell? ⟨gb570, 3, none⟩ = some (.int .i64 a0_3) := (blk_cell BK570.out 3).trans rfl
      have hcz9_4 : w6.cell? ⟨gb570, 4, none⟩ = some (.slice A0_4 l0_4.length c0_4) := (blk_cell BK570.out 4).trans rfl
      have hfz9_0 := blk_frozen BK570.out 0
      have hfz9_1 := blk_frozen BK570.out 1
      have hfz9_2 := blk_frozen BK570.out 2
      have hfz9_3 := blk_frozen BK570.out 3
      have hfz9_4 := blk_frozen BK570.out 4
      go_wp2_with (first | ((with_reducible refine gate_store (t := 24) (p := 2) rfl ?_); refine HW.store_box2 rfl rfl 24 _ _ rfl rfl rfl BK570.out rfl (by kernel_rfl) (by intro q hq; simp only [List.mem_cons, List.not_mem_nil, or_false] at hq; rcases hq with rfl | rfl | rfl | rfl | rfl <;> rfl) ?_; intro w1_ hw1_ hk1_; simp only [List.toList_toArray, World.setCells, Nat.zero_add, Nat.reduceAdd] at hw1_; subst hw1_; have hcb570_0 := (blk_cell hk1_ 0).trans rfl; have hfb570_0 := blk_frozen hk1_ 0; have hcb570_1 := (blk_cell hk1_ 1).trans rfl; have hfb570_1 := blk_frozen hk1_ 1; have hcb570_2 := (blk_cell hk1_ 2).trans rfl; have hfb570_2 := blk_frozen hk1_ 2; have hcb570_3 := (blk_cell hk1_ 3).trans rfl; have hfb570_3 := blk_frozen hk1_ 3; have hcb570_4 := (blk_cell hk1_ 4).trans rfl; have hfb570_4 := blk_frozen hk1_ 4; clear hk1_) | ((with_reducible refine gate_callee (f := 11) rfl ?_); refine goesL_ (some 12) rfl rfl Try.func11 (by kernel_rfl) rfl #[.agg #[.bool a0_0, .int .i64 a0_1, .bool a0_2, .int .i64 a0_3, .slice A0_4 l0_4.length c0_4]] rfl (by (try simp only [List.map_toArray, List.map_cons, List.map_nil]); first | done | rfl | (simp only [List.length_drop, List.length_take]; rfl)) ?_; (with_reducible refine (phaetonlaw04_Great.calls a0_0 a0_1 a0_2 a0_3 _ _ l0_4 true _ ?side1 ?side2 A7.out).mono ?_); (case side1 => repeat (first | exact (Kd.C_below HR0_4.out HB.out) | (with_reducible refine Kd.C_alloc ?_ _) | (with_reducible refine Kd.C_drewN ?_ _) | (with_reducible refine Kd.C_drew ?_))); (case side2 => exact HC0_4.out); rintro e w10 ⟨rfl, hb⟩; refine ⟨_, rfl, ?_⟩; have n0_ := Aside0.mk (blk_below (g := gb570) (o := .cells #[.bool a0_0, .int .i64 a0_1, .bool a0_2, .int .i64 a0_3, .slice A0_4 l0_4.length c0_4] 24 (0, 0)) (by (with_reducible repeat (first | refine blk_drewN ?_ _ | refine blk_drew ?_ | refine blk_alloc ?_ _)); exact BK570.out) hb); have n1_ := Aside0.mk (below_step (by repeat (first | (with_reducible first | exact HB.out | apply below_alloc | apply pw_below_drewN | apply below_drew1 | refine below_set ?_ GE570.out) | exact HB.out)) hb); clear BK570; clear HB; have BK570 := n0_; have HB := n1_; clear n0_ n1_; (try clear hb); (try clear hb2); (try clear hk); (try clear hi)))
      go_meet
      case rel => exact ⟨_, (true), (by first | rfl | (simp; done) | (simp [*]; done)), H', ⟨by first | omega | exact Nat.le_refl _⟩, ⟨by (with_reducible repeat (first | refine blk_drewN ?_ _ | refine blk_drew ?_ | refine blk_alloc ?_ _)); exact BK570.out⟩, ⟨by repeat (first | (with_reducible first | exact HB.out | apply below_alloc | apply pw_below_drewN | apply below_drew1 | refine below_set ?_ GE570.out) | exact HB.out)⟩⟩
    · replace c8 := Bool.eq_false_iff.mpr c8
      subst c8
      have H1 : ((phaetonref04_Right.f k a0_0 a0_1 a0_2 a0_3 l0_4).bind fun t573 => (if t573 = true then (if a0_2 = true then (phaetonlaw04_FrameData.j0 k l1 t571 true a0_0 a0_1 a0_2 a0_3 l0_4) else (if (l1.length : Int) < a0_3 then (phaetonlaw04_FrameData.j0 k l1 t571 true a0_0 a0_1 a0_2 a0_3 l0_4) else (phaetonlaw04_FrameData.j0 k l1 t571 (decide ((l1.length : Int) > 100)) a0_0 a0_1 a0_2 a0_3 l0_4))) else (phaetonlaw04_FrameData.j0 k l1 t571 true a0_0 a0_1 a0_2 a0_3 l0_4))) = some r := by rw [if_neg (show ¬ (false = true) by decide)] at H; exact H
      clear H
      have H := H1
      clear H1
      replace H := Option.bind_eq_some_iff.mp H
      obtain ⟨t573, A110, H⟩ := H
      replace H : (if t573 = true then (if a0_2 = true then (phaetonlaw04_FrameData.j0 k l1 t571 true a0_0 a0_1 a0_2 a0_3 l0_4) else (if (l1.length : Int) < a0_3 then (phaetonlaw04_FrameData.j0 k l1 t571 true a0_0 a0_1 a0_2 a0_3 l0_4) else (phaetonlaw04_FrameData.j0 k l1 t571 (decide ((l1.length : Int) > 100)) a0_0 a0_1 a0_2 a0_3 l0_4))) else (phaetonlaw04_FrameData.j0 k l1 t571 true a0_0 a0_1 a0_2 a0_3 l0_4)) = some r := H
      have A11 := Aside0.mk A110
      clear A110
      by_cases c12 : t573 = true
      · subst c12
        have H1 : (if a0_2 = true then (phaetonlaw04_FrameData.j0 k l1 t571 true a0_0 a0_1 a0_2 a0_3 l0_4) else (if (l1.length : Int) < a0_3 then (phaetonlaw04_FrameData.j0 k l1 t571 true a0_0 a0_1 a0_2 a0_3 l0_4) else (phaetonlaw04_FrameData.j0 k l1 t571 (decide ((l1.length : Int) > 100)) a0_0 a0_1 a0_2 a0_3 l0_4))) = some r := by rw [if_pos rfl] at H; exact H
        clear H
        have H := H1
        clear H1
        by_cases c13 : a0_2 = true
        · subst c13
          have H1 : (phaetonlaw04_FrameData.j0 k l1 t571 true a0_0 a0_1 true a0_3 l0_4) = some r := by rw [if_pos rfl] at H; exact H
          clear H
          have H := H1
          clear H1
          have H' := Aside0.mk H
          clear H
          have hcz14_0 : w6.cell? ⟨gb570, 0, none⟩ = some (.bool a0_0) := (blk_cell BK570.out 0).trans rfl
          have hcz14_1 : w6.cell? ⟨gb570, 1, none⟩ = some (.int .i64 a0_1) := (blk_cell BK570.out 1).trans rfl
          have hcz14_2 : w6.cell? ⟨gb570, 2, none⟩ = some (.bool true) := (blk_cell BK570.out 2).trans rfl
          have hcz14_3 : w6.cell? ⟨gb570, 3, none⟩ = some (.int .i64 a0_3) := (blk_cell BK570.out 3).trans rfl
          have hcz14_4 : w6.cell? ⟨gb570, 4, none⟩ = some (.slice A0_4 l0_4.length c0_4) := (blk_cell BK570.out 4).trans rfl
          have hfz14_0 := blk_frozen BK570.out 0
          have hfz14_1 := blk_frozen BK570.out 1
          have hfz14_2 := blk_frozen BK570.out 2
          have hfz14_3 := blk_frozen BK570.out 3
          have hfz14_4 := blk_frozen BK570.out 4
          go_wp2_with (first | ((with_reducible refine gate_store (t := 24) (p := 2) rfl ?_); refine HW.store_box2 rfl rfl 24 _ _ rfl rfl rfl BK570.out rfl (by kernel_rfl) (by intro q hq; simp only [List.mem_cons, List.not_mem_nil, or_false] at hq; rcases hq with rfl | rfl | rfl | rfl | rfl <;> rfl) ?_; intro w1_ hw1_ hk1_; simp only [List.toList_toArray, World.setCells, Nat.zero_add, Nat.reduceAdd] at hw1_; subst hw1_; have hcb570_0 := (blk_cell hk1_ 0).trans rfl; have hfb570_0 := blk_frozen hk1_ 0; have hcb570_1 := (blk_cell hk1_ 1).trans rfl; have hfb570_1 := blk_frozen hk1_ 1; have hcb570_2 := (blk_cell hk1_ 2).trans rfl; have hfb570_2 := blk_frozen hk1_ 2; have hcb570_3 := (blk_cell hk1_ 3).trans rfl; have hfb570_3 := blk_frozen hk1_ 3; have hcb570_4 := (blk_cell hk1_ 4).trans rfl; have hfb570_4 := blk_frozen hk1_ 4; clear hk1_) | ((with_reducible refine gate_callee (f := 11) rfl ?_); refine goesL_ (some 12) rfl rfl Try.func11 (by kernel_rfl) rfl #[.agg #[.bool a0_0, .int .i64 a0_1, .bool true, .int .i64 a0_3, .slice A0_4 l0_4.length c0_4]] rfl (by (try simp only [List.map_toArray, List.map_cons, List.map_nil]); first | done | rfl | (simp only [List.length_drop, List.length_take]; rfl)) ?_; (with_reducible refine (phaetonlaw04_Great.calls a0_0 a0_1 true a0_3 _ _ l0_4 false _ ?side1 ?side2 A7.out).mono ?_); (case side1 => repeat (first | exact (Kd.C_below HR0_4.out HB.out) | (with_reducible refine Kd.C_alloc ?_ _) | (with_reducible refine Kd.C_drewN ?_ _) | (with_reducible refine Kd.C_drew ?_))); (case side2 => exact HC0_4.out); rintro e w15 ⟨rfl, hb⟩; refine ⟨_, rfl, ?_⟩; have n0_ := Aside0.mk (blk_below (g := gb570) (o := .cells #[.bool a0_0, .int .i64 a0_1, .bool true, .int .i64 a0_3, .slice A0_4 l0_4.length c0_4] 24 (0, 0)) (by (with_reducible repeat (first | refine blk_drewN ?_ _ | refine blk_drew ?_ | refine blk_alloc ?_ _)); exact BK570.out) hb); have n1_ := Aside0.mk (below_step (by repeat (first | (with_reducible first | exact HB.out | apply below_alloc | apply pw_below_drewN | apply below_drew1 | refine below_set ?_ GE570.out) | exact HB.out)) hb); clear BK570; clear HB; have BK570 := n0_; have HB := n1_; clear n0_ n1_; (try clear hb); (try clear hb2); (try clear hk); (try clear hi); have hcz16_0 : w15.cell? ⟨gb570, 0, none⟩ = some (.bool a0_0) := (blk_cell BK570.out 0).trans rfl; have hcz16_1 : w15.cell? ⟨gb570, 1, none⟩ = some (.int .i64 a0_1) := (blk_cell BK570.out 1).trans rfl; have hcz16_2 : w15.cell? ⟨gb570, 2, none⟩ = some (.bool true) := (blk_cell BK570.out 2).trans rfl; have hcz16_3 : w15.cell? ⟨gb570, 3, none⟩ = some (.int .i64 a0_3) := (blk_cell BK570.out 3).trans rfl; have hcz16_4 : w15.cell? ⟨gb570, 4, none⟩ = some (.slice A0_4 l0_4.length c0_4) := (blk_cell BK570.out 4).trans rfl; have hfz16_0 := blk_frozen BK570.out 0; have hfz16_1 := blk_frozen BK570.out 1; have hfz16_2 := blk_frozen BK570.out 2; have hfz16_3 := blk_frozen BK570.out 3; have hfz16_4 := blk_frozen BK570.out 4) | (go_at_call 13; (with_reducible refine (phaetonref04_Right.calls k a0_0 a0_1 true a0_3 _ _ l0_4 true _ ?side1 ?side2 A11.out).mono ?_); (case side1 => repeat (first | exact (Kd.C_below HR0_4.out HB.out) | (with_reducible refine Kd.C_alloc ?_ _) | (with_reducible refine Kd.C_drewN ?_ _) | (with_reducible refine Kd.C_drew ?_))); (case side2 => exact HC0_4.out); rintro e w17 ⟨rfl, hb⟩; have n0_ := Aside0.mk (blk_below (g := gb570) (o := .cells #[.bool a0_0, .int .i64 a0_1, .bool true, .int .i64 a0_3, .slice A0_4 l0_4.length c0_4] 24 (0, 0)) (by (with_reducible repeat (first | refine blk_drewN ?_ _ | refine blk_drew ?_ | refine blk_alloc ?_ _)); exact BK570.out) hb); have n1_ := Aside0.mk (below_step (by repeat (first | (with_reducible first | exact HB.out | apply below_alloc | apply pw_below_drewN | apply below_drew1 | refine below_set ?_ GE570.out) | exact HB.out)) hb); clear BK570; clear HB; have BK570 := n0_; have HB := n1_; clear n0_ n1_; (try clear hb); (try clear hb2); (try clear hk); (try clear hi); have hcz18_0 : w17.cell? ⟨gb570, 0, none⟩ = some (.bool a0_0) := (blk_cell BK570.out 0).trans rfl; have hcz18_1 : w17.cell? ⟨gb570, 1, none⟩ = some (.int .i64 a0_1) := (blk_cell BK570.out 1).trans rfl; have hcz18_2 : w17.cell? ⟨gb570, 2, none⟩ = some (.bool true) := (blk_cell BK570.out 2).trans rfl; have hcz18_3 : w17.cell? ⟨gb570, 3, none⟩ = some (.int .i64 a0_3) := (blk_cell BK570.out 3).trans rfl; have hcz18_4 : w17.cell? ⟨gb570, 4, none⟩ = some (.slice A0_4 l0_4.length c0_4) := (blk_cell BK570.out 4).trans rfl; have hfz18_0 := blk_frozen BK570.out 0; have hfz18_1 := blk_frozen BK570.out 1; have hfz18_2 := blk_frozen BK570.out 2; have hfz18_3 := blk_frozen BK570.out 3; have hfz18_4 := blk_frozen BK570.out 4))
          go_meet
          case rel => exact ⟨_, (true), (by first | rfl | (simp; done) | (simp [*]; done)), H', ⟨by first | omega | exact Nat.le_refl _⟩, ⟨by (with_reducible repeat (first | refine blk_drewN ?_ _ | refine blk_drew ?_ | refine blk_alloc ?_ _)); exact BK570.out⟩, ⟨by repeat (first | (with_reducible first | exact HB.out | apply below_alloc | apply pw_below_drewN | apply below_drew1 | refine below_set ?_ GE570.out) | exact HB.out)⟩⟩
        · replace c13 := Bool.eq_false_iff.mpr c13
          subst c13
          have H1 : (if (l1.length : Int) < a0_3 then (phaetonlaw04_FrameData.j0 k l1 t571 true a0_0 a0_1 false a0_3 l0_4) else (phaetonlaw04_FrameData.j0 k l1 t571 (decide ((l1.length : Int) > 100)) a0_0 a0_1 false a0_3 l0_4)) = some r := by rw [if_neg (show ¬ (false = true) by decide)] at H; exact H
          clear H
          have H := H1
          clear H1
          by_cases c19 : (l1.length : Int) < a0_3
          · rw [if_pos c19] at H
            have c19b0 : decide ((l1.length : Int) < a0_3) = true := decide_eq_true c19
            clear c19
            (first | rw [c19b0] | (simp only [i64_w, i32_w]; rw [c19b0]) | skip)
            have H' := Aside0.mk H
            clear H
            have hcz20_0 : w6.cell? ⟨gb570, 0, none⟩ = some (.bool a0_0) := (blk_cell BK570.out 0).trans rfl
            have hcz20_1 : w6.cell? ⟨gb570, 1, none⟩ = some (.int .i64 a0_1) := (blk_cell BK570.out 1).trans rfl
            have hcz20_2 : w6.cell? ⟨gb570, 2, none⟩ = some (.bool false) := (blk_cell BK570.out 2).trans rfl
            have hcz20_3 : w6.cell? ⟨gb570, 3, none⟩ = some (.int .i64 a0_3) := (blk_cell BK570.out 3).trans rfl
            have hcz20_4 : w6.cell? ⟨gb570, 4, none⟩ = some (.slice A0_4 l0_4.length c0_4) := (blk_cell BK570.out 4).trans rfl
            have hfz20_0 := blk_frozen BK570.out 0
            have hfz20_1 := blk_frozen BK570.out 1
            have hfz20_2 := blk_frozen BK570.out 2
            have hfz20_3 := blk_frozen BK570.out 3
            have hfz20_4 := blk_frozen BK570.out 4
            go_wp2_with (first | ((with_reducible refine gate_store (t := 24) (p := 2) rfl ?_); refine HW.store_box2 rfl rfl 24 _ _ rfl rfl rfl BK570.out rfl (by kernel_rfl) (by intro q hq; simp only [List.mem_cons, List.not_mem_nil, or_false] at hq; rcases hq with rfl | rfl | rfl | rfl | rfl <;> rfl) ?_; intro w1_ hw1_ hk1_; simp only [List.toList_toArray, World.setCells, Nat.zero_add, Nat.reduceAdd] at hw1_; subst hw1_; have hcb570_0 := (blk_cell hk1_ 0).trans rfl; have hfb570_0 := blk_frozen hk1_ 0; have hcb570_1 := (blk_cell hk1_ 1).trans rfl; have hfb570_1 := blk_frozen hk1_ 1; have hcb570_2 := (blk_cell hk1_ 2).trans rfl; have hfb570_2 := blk_frozen hk1_ 2; have hcb570_3 := (blk_cell hk1_ 3).trans rfl; have hfb570_3 := blk_frozen hk1_ 3; have hcb570_4 := (blk_cell hk1_ 4).trans rfl; have hfb570_4 := blk_frozen hk1_ 4; clear hk1_) | ((with_reducible refine gate_callee (f := 11) rfl ?_); refine goesL_ (some 12) rfl rfl Try.func11 (by kernel_rfl) rfl #[.agg #[.bool a0_0, .int .i64 a0_1, .bool false, .int .i64 a0_3, .slice A0_4 l0_4.length c0_4]] rfl (by (try simp only [List.map_toArray, List.map_cons, List.map_nil]); first | done | rfl | (simp only [List.length_drop, List.length_take]; rfl)) ?_; (with_reducible refine (phaetonlaw04_Great.calls a0_0 a0_1 false a0_3 _ _ l0_4 false _ ?side1 ?side2 A7.out).mono ?_); (case side1 => repeat (first | exact (Kd.C_below HR0_4.out HB.out) | (with_reducible refine Kd.C_alloc ?_ _) | (with_reducible refine Kd.C_drewN ?_ _) | (with_reducible refine Kd.C_drew ?_))); (case side2 => exact HC0_4.out); rintro e w21 ⟨rfl, hb⟩; refine ⟨_, rfl, ?_⟩; have n0_ := Aside0.mk (blk_below (g := gb570) (o := .cells #[.bool a0_0, .int .i64 a0_1, .bool false, .int .i64 a0_3, .slice A0_4 l0_4.length c0_4] 24 (0, 0)) (by (with_reducible repeat (first | refine blk_drewN ?_ _ | refine blk_drew ?_ | refine blk_alloc ?_ _)); exact BK570.out) hb); have n1_ := Aside0.mk (below_step (by repeat (first | (with_reducible first | exact HB.out | apply below_alloc | apply pw_below_drewN | apply below_drew1 | refine below_set ?_ GE570.out) | exact HB.out)) hb); clear BK570; clear HB; have BK570 := n0_; have HB := n1_; clear n0_ n1_; (try clear hb); (try clear hb2); (try clear hk); (try clear hi); have hcz22_0 : w21.cell? ⟨gb570, 0, none⟩ = some (.bool a0_0) := (blk_cell BK570.out 0).trans rfl; have hcz22_1 : w21.cell? ⟨gb570, 1, none⟩ = some (.int .i64 a0_1) := (blk_cell BK570.out 1).trans rfl; have hcz22_2 : w21.cell? ⟨gb570, 2, none⟩ = some (.bool false) := (blk_cell BK570.out 2).trans rfl; have hcz22_3 : w21.cell? ⟨gb570, 3, none⟩ = some (.int .i64 a0_3) := (blk_cell BK570.out 3).trans rfl; have hcz22_4 : w21.cell? ⟨gb570, 4, none⟩ = some (.slice A0_4 l0_4.length c0_4) := (blk_cell BK570.out 4).trans rfl; have hfz22_0 := blk_frozen BK570.out 0; have hfz22_1 := blk_frozen BK570.out 1; have hfz22_2 := blk_frozen BK570.out 2; have hfz22_3 := blk_frozen BK570.out 3; have hfz22_4 := blk_frozen BK570.out 4) | (go_at_call 13; (with_reducible refine (phaetonref04_Right.calls k a0_0 a0_1 false a0_3 _ _ l0_4 true _ ?side1 ?side2 A11.out).mono ?_); (case side1 => repeat (first | exact (Kd.C_below HR0_4.out HB.out) | (with_reducible refine Kd.C_alloc ?_ _) | (with_reducible refine Kd.C_drewN ?_ _) | (with_reducible refine Kd.C_drew ?_))); (case side2 => exact HC0_4.out); rintro e w23 ⟨rfl, hb⟩; have n0_ := Aside0.mk (blk_below (g := gb570) (o := .cells #[.bool a0_0, .int .i64 a0_1, .bool false, .int .i64 a0_3, .slice A0_4 l0_4.length c0_4] 24 (0, 0)) (by (with_reducible repeat (first | refine blk_drewN ?_ _ | refine blk_drew ?_ | refine blk_alloc ?_ _)); exact BK570.out) hb); have n1_ := Aside0.mk (below_step (by repeat (first | (with_reducible first | exact HB.out | apply below_alloc | apply pw_below_drewN | apply below_drew1 | refine below_set ?_ GE570.out) | exact HB.out)) hb); clear BK570; clear HB; have BK570 := n0_; have HB := n1_; clear n0_ n1_; (try clear hb); (try clear hb2); (try clear hk); (try clear hi); have hcz24_0 : w23.cell? ⟨gb570, 0, none⟩ = some (.bool a0_0) := (blk_cell BK570.out 0).trans rfl; have hcz24_1 : w23.cell? ⟨gb570, 1, none⟩ = some (.int .i64 a0_1) := (blk_cell BK570.out 1).trans rfl; have hcz24_2 : w23.cell? ⟨gb570, 2, none⟩ = some (.bool false) := (blk_cell BK570.out 2).trans rfl; have hcz24_3 : w23.cell? ⟨gb570, 3, none⟩ = some (.int .i64 a0_3) := (blk_cell BK570.out 3).trans rfl; have hcz24_4 : w23.cell? ⟨gb570, 4, none⟩ = some (.slice A0_4 l0_4.length c0_4) := (blk_cell BK570.out 4).trans rfl; have hfz24_0 := blk_frozen BK570.out 0; have hfz24_1 := blk_frozen BK570.out 1; have hfz24_2 := blk_frozen BK570.out 2; have hfz24_3 := blk_frozen BK570.out 3; have hfz24_4 := blk_frozen BK570.out 4))
            go_meet
            case rel => exact ⟨_, (true), (by first | rfl | (simp; done) | (simp [*]; done)), H', ⟨by first | omega | exact Nat.le_refl _⟩, ⟨by (with_reducible repeat (first | refine blk_drewN ?_ _ | refine blk_drew ?_ | refine blk_alloc ?_ _)); exact BK570.out⟩, ⟨by repeat (first | (with_reducible first | exact HB.out | apply below_alloc | apply pw_below_drewN | apply below_drew1 | refine below_set ?_ GE570.out) | exact HB.out)⟩⟩
          · rw [if_neg c19] at H
            have c19b0 : decide ((l1.length : Int) < a0_3) = false := decide_eq_false c19
            clear c19
            (first | rw [c19b0] | (simp only [i64_w, i32_w]; rw [c19b0]) | skip)
            have H' := Aside0.mk H
            clear H
            have hcz25_0 : w6.cell? ⟨gb570, 0, none⟩ = some (.bool a0_0) := (blk_cell BK570.out 0).trans rfl
            have hcz25_1 : w6.cell? ⟨gb570, 1, none⟩ = some (.int .i64 a0_1) := (blk_cell BK570.out 1).trans rfl
            have hcz25_2 : w6.cell? ⟨gb570, 2, none⟩ = some (.bool false) := (blk_cell BK570.out 2).trans rfl
            have hcz25_3 : w6.cell? ⟨gb570, 3, none⟩ = some (.int .i64 a0_3) := (blk_cell BK570.out 3).trans rfl
            have hcz25_4 : w6.cell? ⟨gb570, 4, none⟩ = some (.slice A0_4 l0_4.length c0_4) := (blk_cell BK570.out 4).trans rfl
            have hfz25_0 := blk_frozen BK570.out 0
            have hfz25_1 := blk_frozen BK570.out 1
            have hfz25_2 := blk_frozen BK570.out 2
            have hfz25_3 := blk_frozen BK570.out 3
            have hfz25_4 := blk_frozen BK570.out 4
            go_wp2_with (first | ((with_reducible refine gate_store (t := 24) (p := 2) rfl ?_); refine HW.store_box2 rfl rfl 24 _ _ rfl rfl rfl BK570.out rfl (by kernel_rfl) (by intro q hq; simp only [List.mem_cons, List.not_mem_nil, or_false] at hq; rcases hq with rfl | rfl | rfl | rfl | rfl <;> rfl) ?_; intro w1_ hw1_ hk1_; simp only [List.toList_toArray, World.setCells, Nat.zero_add, Nat.reduceAdd] at hw1_; subst hw1_; have hcb570_0 := (blk_cell hk1_ 0).trans rfl; have hfb570_0 := blk_frozen hk1_ 0; have hcb570_1 := (blk_cell hk1_ 1).trans rfl; have hfb570_1 := blk_frozen hk1_ 1; have hcb570_2 := (blk_cell hk1_ 2).trans rfl; have hfb570_2 := blk_frozen hk1_ 2; have hcb570_3 := (blk_cell hk1_ 3).trans rfl; have hfb570_3 := blk_frozen hk1_ 3; have hcb570_4 := (blk_cell hk1_ 4).trans rfl; have hfb570_4 := blk_frozen hk1_ 4; clear hk1_) | ((with_reducible refine gate_callee (f := 11) rfl ?_); refine goesL_ (some 12) rfl rfl Try.func11 (by kernel_rfl) rfl #[.agg #[.bool a0_0, .int .i64 a0_1, .bool false, .int .i64 a0_3, .slice A0_4 l0_4.length c0_4]] rfl (by (try simp only [List.map_toArray, List.map_cons, List.map_nil]); first | done | rfl | (simp only [List.length_drop, List.length_take]; rfl)) ?_; (with_reducible refine (phaetonlaw04_Great.calls a0_0 a0_1 false a0_3 _ _ l0_4 false _ ?side1 ?side2 A7.out).mono ?_); (case side1 => repeat (first | exact (Kd.C_below HR0_4.out HB.out) | (with_reducible refine Kd.C_alloc ?_ _) | (with_reducible refine Kd.C_drewN ?_ _) | (with_reducible refine Kd.C_drew ?_))); (case side2 => exact HC0_4.out); rintro e w26 ⟨rfl, hb⟩; refine ⟨_, rfl, ?_⟩; have n0_ := Aside0.mk (blk_below (g := gb570) (o := .cells #[.bool a0_0, .int .i64 a0_1, .bool false, .int .i64 a0_3, .slice A0_4 l0_4.length c0_4] 24 (0, 0)) (by (with_reducible repeat (first | refine blk_drewN ?_ _ | refine blk_drew ?_ | refine blk_alloc ?_ _)); exact BK570.out) hb); have n1_ := Aside0.mk (below_step (by repeat (first | (with_reducible first | exact HB.out | apply below_alloc | apply pw_below_drewN | apply below_drew1 | refine below_set ?_ GE570.out) | exact HB.out)) hb); clear BK570; clear HB; have BK570 := n0_; have HB := n1_; clear n0_ n1_; (try clear hb); (try clear hb2); (try clear hk); (try clear hi); have hcz27_0 : w26.cell? ⟨gb570, 0, none⟩ = some (.bool a0_0) := (blk_cell BK570.out 0).trans rfl; have hcz27_1 : w26.cell? ⟨gb570, 1, none⟩ = some (.int .i64 a0_1) := (blk_cell BK570.out 1).trans rfl; have hcz27_2 : w26.cell? ⟨gb570, 2, none⟩ = some (.bool false) := (blk_cell BK570.out 2).trans rfl; have hcz27_3 : w26.cell? ⟨gb570, 3, none⟩ = some (.int .i64 a0_3) := (blk_cell BK570.out 3).trans rfl; have hcz27_4 : w26.cell? ⟨gb570, 4, none⟩ = some (.slice A0_4 l0_4.length c0_4) := (blk_cell BK570.out 4).trans rfl; have hfz27_0 := blk_frozen BK570.out 0; have hfz27_1 := blk_frozen BK570.out 1; have hfz27_2 := blk_frozen BK570.out 2; have hfz27_3 := blk_frozen BK570.out 3; have hfz27_4 := blk_frozen BK570.out 4) | (go_at_call 13; (with_reducible refine (phaetonref04_Right.calls k a0_0 a0_1 false a0_3 _ _ l0_4 true _ ?side1 ?side2 A11.out).mono ?_); (case side1 => repeat (first | exact (Kd.C_below HR0_4.out HB.out) | (with_reducible refine Kd.C_alloc ?_ _) | (with_reducible refine Kd.C_drewN ?_ _) | (with_reducible refine Kd.C_drew ?_))); (case side2 => exact HC0_4.out); rintro e w28 ⟨rfl, hb⟩; have n0_ := Aside0.mk (blk_below (g := gb570) (o := .cells #[.bool a0_0, .int .i64 a0_1, .bool false, .int .i64 a0_3, .slice A0_4 l0_4.length c0_4] 24 (0, 0)) (by (with_reducible repeat (first | refine blk_drewN ?_ _ | refine blk_drew ?_ | refine blk_alloc ?_ _)); exact BK570.out) hb); have n1_ := Aside0.mk (below_step (by repeat (first | (with_reducible first | exact HB.out | apply below_alloc | apply pw_below_drewN | apply below_drew1 | refine below_set ?_ GE570.out) | exact HB.out)) hb); clear BK570; clear HB; have BK570 := n0_; have HB := n1_; clear n0_ n1_; (try clear hb); (try clear hb2); (try clear hk); (try clear hi); have hcz29_0 : w28.cell? ⟨gb570, 0, none⟩ = some (.bool a0_0) := (blk_cell BK570.out 0).trans rfl; have hcz29_1 : w28.cell? ⟨gb570, 1, none⟩ = some (.int .i64 a0_1) := (blk_cell BK570.out 1).trans rfl; have hcz29_2 : w28.cell? ⟨gb570, 2, none⟩ = some (.bool false) := (blk_cell BK570.out 2).trans rfl; have hcz29_3 : w28.cell? ⟨gb570, 3, none⟩ = some (.int .i64 a0_3) := (blk_cell BK570.out 3).trans rfl; have hcz29_4 : w28.cell? ⟨gb570, 4, none⟩ = some (.slice A0_4 l0_4.length c0_4) := (blk_cell BK570.out 4).trans rfl; have hfz29_0 := blk_frozen BK570.out 0; have hfz29_1 := blk_frozen BK570.out 1; have hfz29_2 := blk_frozen BK570.out 2; have hfz29_3 := blk_frozen BK570.out 3; have hfz29_4 := blk_frozen BK570.out 4))
            go_meet
            case rel => exact ⟨_, (decide ((l1.length : Int) > 100)), (by first | rfl | (simp; done) | (simp [*]; done)), H', ⟨by first | omega | exact Nat.le_refl _⟩, ⟨by (with_reducible repeat (first | refine blk_drewN ?_ _ | refine blk_drew ?_ | refine blk_alloc ?_ _)); exact BK570.out⟩, ⟨by repeat (first | (with_reducible first | exact HB.out | apply below_alloc | apply pw_below_drewN | apply below_drew1 | refine below_set ?_ GE570.out) | exact HB.out)⟩⟩
      · replace c12 := Bool.eq_false_iff.mpr c12
        subst c12
        have H1 : (phaetonlaw04_FrameData.j0 k l1 t571 true a0_0 a0_1 a0_2 a0_3 l0_4) = some r := by rw [if_neg (show ¬ (false = true) by decide)] at H; exact H
        clear H
        have H := H1
        clear H1
        have H' := Aside0.mk H
        clear H
        have hcz30_0 : w6.cell? ⟨gb570, 0, none⟩ = some (.bool a0_0) := (blk_cell BK570.out 0).trans rfl
        have hcz30_1 : w6.cell? ⟨gb570, 1, none⟩ = some (.int .i64 a0_1) := (blk_cell BK570.out 1).trans rfl
        have hcz30_2 : w6.cell? ⟨gb570, 2, none⟩ = some (.bool a0_2) := (blk_cell BK570.out 2).trans rfl
        have hcz30_3 : w6.cell? ⟨gb570, 3, none⟩ = some (.int .i64 a0_3) := (blk_cell BK570.out 3).trans rfl
        have hcz30_4 : w6.cell? ⟨gb570, 4, none⟩ = some (.slice A0_4 l0_4.length c0_4) := (blk_cell BK570.out 4).trans rfl
        have hfz30_0 := blk_frozen BK570.out 0
        have hfz30_1 := blk_frozen BK570.out 1
        have hfz30_2 := blk_frozen BK570.out 2
        have hfz30_3 := blk_frozen BK570.out 3
        have hfz30_4 := blk_frozen BK570.out 4
        go_wp2_with (first | ((with_reducible refine gate_store (t := 24) (p := 2) rfl ?_); refine HW.store_box2 rfl rfl 24 _ _ rfl rfl rfl BK570.out rfl (by kernel_rfl) (by intro q hq; simp only [List.mem_cons, List.not_mem_nil, or_false] at hq; rcases hq with rfl | rfl | rfl | rfl | rfl <;> rfl) ?_; intro w1_ hw1_ hk1_; simp only [List.toList_toArray, World.setCells, Nat.zero_add, Nat.reduceAdd] at hw1_; subst hw1_; have hcb570_0 := (blk_cell hk1_ 0).trans rfl; have hfb570_0 := blk_frozen hk1_ 0; have hcb570_1 := (blk_cell hk1_ 1).trans rfl; have hfb570_1 := blk_frozen hk1_ 1; have hcb570_2 := (blk_cell hk1_ 2).trans rfl; have hfb570_2 := blk_frozen hk1_ 2; have hcb570_3 := (blk_cell hk1_ 3).trans rfl; have hfb570_3 := blk_frozen hk1_ 3; have hcb570_4 := (blk_cell hk1_ 4).trans rfl; have hfb570_4 := blk_frozen hk1_ 4; clear hk1_) | ((with_reducible refine gate_callee (f := 11) rfl ?_); refine goesL_ (some 12) rfl rfl Try.func11 (by kernel_rfl) rfl #[.agg #[.bool a0_0, .int .i64 a0_1, .bool a0_2, .int .i64 a0_3, .slice A0_4 l0_4.length c0_4]] rfl (by (try simp only [List.map_toArray, List.map_cons, List.map_nil]); first | done | rfl | (simp only [List.length_drop, List.length_take]; rfl)) ?_; (with_reducible refine (phaetonlaw04_Great.calls a0_0 a0_1 a0_2 a0_3 _ _ l0_4 false _ ?side1 ?side2 A7.out).mono ?_); (case side1 => repeat (first | exact (Kd.C_below HR0_4.out HB.out) | (with_reducible refine Kd.C_alloc ?_ _) | (with_reducible refine Kd.C_drewN ?_ _) | (with_reducible refine Kd.C_drew ?_))); (case side2 => exact HC0_4.out); rintro e w31 ⟨rfl, hb⟩; refine ⟨_, rfl, ?_⟩; have n0_ := Aside0.mk (blk_below (g := gb570) (o := .cells #[.bool a0_0, .int .i64 a0_1, .bool a0_2, .int .i64 a0_3, .slice A0_4 l0_4.length c0_4] 24 (0, 0)) (by (with_reducible repeat (first | refine blk_drewN ?_ _ | refine blk_drew ?_ | refine blk_alloc ?_ _)); exact BK570.out) hb); have n1_ := Aside0.mk (below_step (by repeat (first | (with_reducible first | exact HB.out | apply below_alloc | apply pw_below_drewN | apply below_drew1 | refine below_set ?_ GE570.out) | exact HB.out)) hb); clear BK570; clear HB; have BK570 := n0_; have HB := n1_; clear n0_ n1_; (try clear hb); (try clear hb2); (try clear hk); (try clear hi); have hcz32_0 : w31.cell? ⟨gb570, 0, none⟩ = some (.bool a0_0) := (blk_cell BK570.out 0).trans rfl; have hcz32_1 : w31.cell? ⟨gb570, 1, none⟩ = some (.int .i64 a0_1) := (blk_cell BK570.out 1).trans rfl; have hcz32_2 : w31.cell? ⟨gb570, 2, none⟩ = some (.bool a0_2) := (blk_cell BK570.out 2).trans rfl; have hcz32_3 : w31.cell? ⟨gb570, 3, none⟩ = some (.int .i64 a0_3) := (blk_cell BK570.out 3).trans rfl; have hcz32_4 : w31.cell? ⟨gb570, 4, none⟩ = some (.slice A0_4 l0_4.length c0_4) := (blk_cell BK570.out 4).trans rfl; have hfz32_0 := blk_frozen BK570.out 0; have hfz32_1 := blk_frozen BK570.out 1; have hfz32_2 := blk_frozen BK570.out 2; have hfz32_3 := blk_frozen BK570.out 3; have hfz32_4 := blk_frozen BK570.out 4) | (go_at_call 13; (with_reducible refine (phaetonref04_Right.calls k a0_0 a0_1 a0_2 a0_3 _ _ l0_4 false _ ?side1 ?side2 A11.out).mono ?_); (case side1 => repeat (first | exact (Kd.C_below HR0_4.out HB.out) | (with_reducible refine Kd.C_alloc ?_ _) | (with_reducible refine Kd.C_drewN ?_ _) | (with_reducible refine Kd.C_drew ?_))); (case side2 => exact HC0_4.out); rintro e w33 ⟨rfl, hb⟩; have n0_ := Aside0.mk (blk_below (g := gb570) (o := .cells #[.bool a0_0, .int .i64 a0_1, .bool a0_2, .int .i64 a0_3, .slice A0_4 l0_4.length c0_4] 24 (0, 0)) (by (with_reducible repeat (first | refine blk_drewN ?_ _ | refine blk_drew ?_ | refine blk_alloc ?_ _)); exact BK570.out) hb); have n1_ := Aside0.mk (below_step (by repeat (first | (with_reducible first | exact HB.out | apply below_alloc | apply pw_below_drewN | apply below_drew1 | refine below_set ?_ GE570.out) | exact HB.out)) hb); clear BK570; clear HB; have BK570 := n0_; have HB := n1_; clear n0_ n1_; (try clear hb); (try clear hb2); (try clear hk); (try clear hi)))
        go_meet
        case rel => exact ⟨_, (true), (by first | rfl | (simp; done) | (simp [*]; done)), H', ⟨by first | omega | exact Nat.le_refl _⟩, ⟨by (with_reducible repeat (first | refine blk_drewN ?_ _ | refine blk_drew ?_ | refine blk_alloc ?_ _)); exact BK570.out⟩, ⟨by repeat (first | (with_reducible first | exact HB.out | apply below_alloc | apply pw_below_drewN | apply below_drew1 | refine below_set ?_ GE570.out) | exact HB.out)⟩⟩
  case rest =>
    clear HC4
    try clear c1
    try clear p2
    try clear c8
    try clear c9
    try clear c10
    try clear c11
    try clear c12
    try clear c13
    try clear c19
    try clear c19b0
    try clear hcz14_0
    try clear hcz14_1
    try clear hcz14_2
    try clear hcz14_3
    try clear hcz14_4
    try clear hcz16_0
    try clear hcz16_1
    try clear hcz16_2
    try clear hcz16_3
    try clear hcz16_4
    try clear hcz18_0
    try clear hcz18_1
    try clear hcz18_2
    try clear hcz18_3
    try clear hcz18_4
    try clear hcz20_0
    try clear hcz20_1
    try clear hcz20_2
    try clear hcz20_3
    try clear hcz20_4
    try clear hcz22_0
    try clear hcz22_1
    try clear hcz22_2
    try clear hcz22_3
    try clear hcz22_4
    try clear hcz24_0
    try clear hcz24_1
    try clear hcz24_2
    try clear hcz24_3
    try clear hcz24_4
    try clear hcz25_0
    try clear hcz25_1
    try clear hcz25_2
    try clear hcz25_3
    try clear hcz25_4
    try clear hcz27_0
    try clear hcz27_1
    try clear hcz27_2
    try clear hcz27_3
    try clear hcz27_4
    try clear hcz29_0
    try clear hcz29_1
    try clear hcz29_2
    try clear hcz29_3
    try clear hcz29_4
    try clear hcz30_0
    try clear hcz30_1
    try clear hcz30_2
    try clear hcz30_3
    try clear hcz30_4
    try clear hcz32_0
    try clear hcz32_1
    try clear hcz32_2
    try clear hcz32_3
    try clear hcz32_4
    try clear hcz9_0
    try clear hcz9_1
    try clear hcz9_2
    try clear hcz9_3
    try clear hcz9_4
    try clear hfz14_0
    try clear hfz14_1
    try clear hfz14_2
    try clear hfz14_3
    try clear hfz14_4
    try clear hfz16_0
    try clear hfz16_1
    try clear hfz16_2
    try clear hfz16_3
    try clear hfz16_4
    try clear hfz18_0
    try clear hfz18_1
    try clear hfz18_2
    try clear hfz18_3
    try clear hfz18_4
    try clear hfz20_0
    try clear hfz20_1
    try clear hfz20_2
    try clear hfz20_3
    try clear hfz20_4
    try clear hfz22_0
    try clear hfz22_1
    try clear hfz22_2
    try clear hfz22_3
    try clear hfz22_4
    try clear hfz24_0
    try clear hfz24_1
    try clear hfz24_2
    try clear hfz24_3
    try clear hfz24_4
    try clear hfz25_0
    try clear hfz25_1
    try clear hfz25_2
    try clear hfz25_3
    try clear hfz25_4
    try clear hfz27_0
    try clear hfz27_1
    try clear hfz27_2
    try clear hfz27_3
    try clear hfz27_4
    try clear hfz29_0
    try clear hfz29_1
    try clear hfz29_2
    try clear hfz29_3
    try clear hfz29_4
    try clear hfz30_0
    try clear hfz30_1
    try clear hfz30_2
    try clear hfz30_3
    try clear hfz30_4
    try clear hfz32_0
    try clear hfz32_1
    try clear hfz32_2
    try clear hfz32_3
    try clear hfz32_4
    try clear hfz9_0
    try clear hfz9_1
    try clear hfz9_2
    try clear hfz9_3
    try clear hfz9_4
    obtain ⟨kq, x33_3, rfl, HA, HJ3, BK570, HB⟩ := hcut
    cases kq with
    | zero => exact absurd HA.out (by simp [phaetonlaw04_FrameData.j0])
    | succ kj3 =>
      have H := HA.out
      clear HA
      simp only [phaetonlaw04_FrameData.j0] at H
      by_cases c34 : x33_3 = true
      · subst c34
        have H1 : (if t571 = true then (some true) else (none)) = some r := by rw [if_pos rfl] at H; exact H
        clear H
        have H := H1
        clear H1
        by_cases c35 : t571 = true
        · subst c35
          have H1 : (some true) = some r := by rw [if_pos rfl] at H; exact H
          clear H
          have H := H1
          clear H1
          obtain rfl := Option.some.inj H
          go_wp2
          go_ret
          exact ⟨by first | rfl | (simp [errW_none, errW_some] <;> rfl) | (simp [*, errW_none, errW_some] <;> rfl), by repeat (first | (with_reducible first | exact HB.out | apply below_alloc | apply pw_below_drewN | apply below_drew1 | refine below_set ?_ GE570.out) | exact HB.out)⟩
        · replace c35 := Bool.eq_false_iff.mpr c35
          subst c35
          have H1 : (none) = some r := by rw [if_neg (show ¬ (false = true) by decide)] at H; exact H
          clear H
          have H := H1
          clear H1
          exact absurd H (by simp)
      · replace c34 := Bool.eq_false_iff.mpr c34
        subst c34
        have H1 : (if 0 ≤ a0_3 then (if a0_3 ≤ (l1.length : Int) then ((frame_Head.f a0_0 a0_1 a0_2 a0_3 l0_4).bind fun t576 => ((frame_Head.f a0_0 a0_1 a0_2 a0_3 (l1.take (a0_3 : Int).toNat)).bind fun t579 => (if t571 = true then (if (wrap64 ((t576.length : Int) - (wrap64 (8 * a0_3)))) > 0 then (if (t576.length : Int) = (t579.length : Int) then (if 0 ≤ (wrap64 ((t576.length : Int) - (wrap64 (8 * a0_3)))) then (if (wrap64 ((t576.length : Int) - (wrap64 (8 * a0_3)))) ≤ (t576.length : Int) then (if (wrap64 ((t576.length : Int) - (wrap64 (8 * a0_3)))) ≤ (t579.length : Int) then ((phaetonref01_Same.f kj3 (t576.take ((wrap64 ((t576.length : Int) - (wrap64 (8 * a0_3)))) : Int).toNat) (t579.take ((wrap64 ((t576.length : Int) - (wrap64 (8 * a0_3)))) : Int).toNat)).bind fun t590 => (if t590 = true then ((phaetonref01_Spread.f kj3 l0_4).bind fun t595 => ((phaetonref01_Same.f kj3 (t576.drop ((wrap64 ((t576.length : Int) - (wrap64 (8 * a0_3)))) : Int).toNat) t595).bind fun t598 => (if t598 = true then ((phaetonref01_Spread.f kj3 (l1.take (a0_3 : Int).toNat)).bind fun t603 => ((phaetonref01_Same.f kj3 (t579.drop ((wrap64 ((t576.length : Int) - (wrap64 (8 * a0_3)))) : Int).toNat) t603).bind fun t606 => (if t606 = true then ((frame_Rank.f a0_0 a0_1 a0_2 a0_3 l0_4).bind fun t607 => ((frame_Rank.f a0_0 a0_1 a0_2 a0_3 (l1.take (a0_3 : Int).toNat)).bind fun t610 => ((phaetonref01_Same.f kj3 t607 t610).bind fun t613 => (if t613 = true then ((frame_Same.f a0_0 a0_1 a0_2 a0_3 l0_4 a0_0 a0_1 a0_2 a0_3 (l1.take (a0_3 : Int).toNat)).bind fun t614 => ((phaetonref01_SameBytes.f l0_4 (l1.take (a0_3 : Int).toNat)).bind fun t615 => (if (t614 == t615) = true then (some true) else (none)))) else (none))))) else (none)))) else (none)))) else (none))) else (none)) else (none)) else (none)) else (none)) else (none)) else (none)))) else (none)) else (none)) = some r := by rw [if_neg (show ¬ (false = true) by decide)] at H; exact H
        clear H
        have H := H1
        clear H1
        by_cases c36 : 0 ≤ a0_3
        · rw [if_pos c36] at H
          have c36b0 := eq_true c36
          have c36b1 : decide (0 ≤ a0_3) = true := decide_eq_true c36
          clear c36
          by_cases c37 : a0_3 ≤ (l1.length : Int)
          · rw [if_pos c37] at H
            have c37b0 := eq_true c37
            have c37b1 : decide (a0_3 ≤ (l1.length : Int)) = true := decide_eq_true c37
            clear c37
            replace H := Option.bind_eq_some_iff.mp H
            obtain ⟨t576, A380, H⟩ := H
            replace H : ((frame_Head.f a0_0 a0_1 a0_2 a0_3 (l1.take (a0_3 : Int).toNat)).bind fun t579 => (if t571 = true then (if (wrap64 ((t576.length : Int) - (wrap64 (8 * a0_3)))) > 0 then (if (t576.length : Int) = (t579.length : Int) then (if 0 ≤ (wrap64 ((t576.length : Int) - (wrap64 (8 * a0_3)))) then (if (wrap64 ((t576.length : Int) - (wrap64 (8 * a0_3)))) ≤ (t576.length : Int) then (if (wrap64 ((t576.length : Int) - (wrap64 (8 * a0_3)))) ≤ (t579.length : Int) then ((phaetonref01_Same.f kj3 (t576.take ((wrap64 ((t576.length : Int) - (wrap64 (8 * a0_3)))) : Int).toNat) (t579.take ((wrap64 ((t576.length : Int) - (wrap64 (8 * a0_3)))) : Int).toNat)).bind fun t590 => (if t590 = true then ((phaetonref01_Spread.f kj3 l0_4).bind fun t595 => ((phaetonref01_Same.f kj3 (t576.drop ((wrap64 ((t576.length : Int) - (wrap64 (8 * a0_3)))) : Int).toNat) t595).bind fun t598 => (if t598 = true then ((phaetonref01_Spread.f kj3 (l1.take (a0_3 : Int).toNat)).bind fun t603 => ((phaetonref01_Same.f kj3 (t579.drop ((wrap64 ((t576.length : Int) - (wrap64 (8 * a0_3)))) : Int).toNat) t603).bind fun t606 => (if t606 = true then ((frame_Rank.f a0_0 a0_1 a0_2 a0_3 l0_4).bind fun t607 => ((frame_Rank.f a0_0 a0_1 a0_2 a0_3 (l1.take (a0_3 : Int).toNat)).bind fun t610 => ((phaetonref01_Same.f kj3 t607 t610).bind fun t613 => (if t613 = true then ((frame_Same.f a0_0 a0_1 a0_2 a0_3 l0_4 a0_0 a0_1 a0_2 a0_3 (l1.take (a0_3 : Int).toNat)).bind fun t614 => ((phaetonref01_SameBytes.f l0_4 (l1.take (a0_3 : Int).toNat)).bind fun t615 => (if (t614 == t615) = true then (some true) else (none)))) else (none))))) else (none)))) else (none)))) else (none))) else (none)) else (none)) else (none)) else (none)) else (none)) else (none))) = some r := H
            have A38 := Aside0.mk A380
            clear A380
            replace H := Option.bind_eq_some_iff.mp H
            obtain ⟨t579, A390, H⟩ := H
            replace H : (if t571 = true then (if (wrap64 ((t576.length : Int) - (wrap64 (8 * a0_3)))) > 0 then (if (t576.length : Int) = (t579.length : Int) then (if 0 ≤ (wrap64 ((t576.length : Int) - (wrap64 (8 * a0_3)))) then (if (wrap64 ((t576.length : Int) - (wrap64 (8 * a0_3)))) ≤ (t576.length : Int) then (if (wrap64 ((t576.length : Int) - (wrap64 (8 * a0_3)))) ≤ (t579.length : Int) then ((phaetonref01_Same.f kj3 (t576.take ((wrap64 ((t576.length : Int) - (wrap64 (8 * a0_3)))) : Int).toNat) (t579.take ((wrap64 ((t576.length : Int) - (wrap64 (8 * a0_3)))) : Int).toNat)).bind fun t590 => (if t590 = true then ((phaetonref01_Spread.f kj3 l0_4).bind fun t595 => ((phaetonref01_Same.f kj3 (t576.drop ((wrap64 ((t576.length : Int) - (wrap64 (8 * a0_3)))) : Int).toNat) t595).bind fun t598 => (if t598 = true then ((phaetonref01_Spread.f kj3 (l1.take (a0_3 : Int).toNat)).bind fun t603 => ((phaetonref01_Same.f kj3 (t579.drop ((wrap64 ((t576.length : Int) - (wrap64 (8 * a0_3)))) : Int).toNat) t603).bind fun t606 => (if t606 = true then ((frame_Rank.f a0_0 a0_1 a0_2 a0_3 l0_4).bind fun t607 => ((frame_Rank.f a0_0 a0_1 a0_2 a0_3 (l1.take (a0_3 : Int).toNat)).bind fun t610 => ((phaetonref01_Same.f kj3 t607 t610).bind fun t613 => (if t613 = true then ((frame_Same.f a0_0 a0_1 a0_2 a0_3 l0_4 a0_0 a0_1 a0_2 a0_3 (l1.take (a0_3 : Int).toNat)).bind fun t614 => ((phaetonref01_SameBytes.f l0_4 (l1.take (a0_3 : Int).toNat)).bind fun t615 => (if (t614 == t615) = true then (some true) else (none)))) else (none))))) else (none)))) else (none)))) else (none))) else (none)) else (none)) else (none)) else (none)) else (none)) else (none)) = some r := H
            have A39 := Aside0.mk A390
            clear A390
            by_cases c40 : t571 = true
            · subst c40
              have H1 : (if (wrap64 ((t576.length : Int) - (wrap64 (8 * a0_3)))) > 0 then (if (t576.length : Int) = (t579.length : Int) then (if 0 ≤ (wrap64 ((t576.length : Int) - (wrap64 (8 * a0_3)))) then (if (wrap64 ((t576.length : Int) - (wrap64 (8 * a0_3)))) ≤ (t576.length : Int) then (if (wrap64 ((t576.length : Int) - (wrap64 (8 * a0_3)))) ≤ (t579.length : Int) then ((phaetonref01_Same.f kj3 (t576.take ((wrap64 ((t576.length : Int) - (wrap64 (8 * a0_3)))) : Int).toNat) (t579.take ((wrap64 ((t576.length : Int) - (wrap64 (8 * a0_3)))) : Int).toNat)).bind fun t590 => (if t590 = true then ((phaetonref01_Spread.f kj3 l0_4).bind fun t595 => ((phaetonref01_Same.f kj3 (t576.drop ((wrap64 ((t576.length : Int) - (wrap64 (8 * a0_3)))) : Int).toNat) t595).bind fun t598 => (if t598 = true then ((phaetonref01_Spread.f kj3 (l1.take (a0_3 : Int).toNat)).bind fun t603 => ((phaetonref01_Same.f kj3 (t579.drop ((wrap64 ((t576.length : Int) - (wrap64 (8 * a0_3)))) : Int).toNat) t603).bind fun t606 => (if t606 = true then ((frame_Rank.f a0_0 a0_1 a0_2 a0_3 l0_4).bind fun t607 => ((frame_Rank.f a0_0 a0_1 a0_2 a0_3 (l1.take (a0_3 : Int).toNat)).bind fun t610 => ((phaetonref01_Same.f kj3 t607 t610).bind fun t613 => (if t613 = true then ((frame_Same.f a0_0 a0_1 a0_2 a0_3 l0_4 a0_0 a0_1 a0_2 a0_3 (l1.take (a0_3 : Int).toNat)).bind fun t614 => ((phaetonref01_SameBytes.f l0_4 (l1.take (a0_3 : Int).toNat)).bind fun t615 => (if (t614 == t615) = true then (some true) else (none)))) else (none))))) else (none)))) else (none)))) else (none))) else (none)) else (none)) else (none)) else (none)) else (none)) = some r := by rw [if_pos rfl] at H; exact H
              clear H
              have H := H1
              clear H1
              by_cases c41 : (wrap64 ((t576.length : Int) - (wrap64 (8 * a0_3)))) > 0
              · rw [if_pos c41] at H
                have c41b0 : decide (0 < (wrap64 ((t576.length : Int) - (wrap64 (8 * a0_3))))) = true := decide_eq_true c41
                clear c41
                by_cases c42 : (t576.length : Int) = (t579.length : Int)
                · rw [if_pos c42] at H
                  have c42b0 : ((t576.length : Int) == (t579.length : Int)) = true := beq_iff_eq.mpr c42
                  have c42b1 : ((t576.length : Int) != (t579.length : Int)) = false := bne_eq_false_iff_eq.mpr c42
                  have c42b2 : (t576.length == t579.length) = true := by first | simpa using c42 | (simp at c42 ⊢; omega)
                  clear c42
                  obtain ⟨ji43, hji43⟩ : ∃ j_ : Int, (wrap64 ((t576.length : Int) - (wrap64 (8 * a0_3)))) = j_ := ⟨_, rfl⟩
                  replace H : (if 0 ≤ (ji43) then (if (ji43) ≤ (t576.length : Int) then (if (ji43) ≤ (t579.length : Int) then ((phaetonref01_Same.f kj3 (t576.take ((ji43) : Int).toNat) (t579.take ((ji43) : Int).toNat)).bind fun t590 => (if t590 = true then ((phaetonref01_Spread.f kj3 l0_4).bind fun t595 => ((phaetonref01_Same.f kj3 (t576.drop ((ji43) : Int).toNat) t595).bind fun t598 => (if t598 = true then ((phaetonref01_Spread.f kj3 (l1.take (a0_3 : Int).toNat)).bind fun t603 => ((phaetonref01_Same.f kj3 (t579.drop ((ji43) : Int).toNat) t603).bind fun t606 => (if t606 = true then ((frame_Rank.f a0_0 a0_1 a0_2 a0_3 l0_4).bind fun t607 => ((frame_Rank.f a0_0 a0_1 a0_2 a0_3 (l1.take (a0_3 : Int).toNat)).bind fun t610 => ((phaetonref01_Same.f kj3 t607 t610).bind fun t613 => (if t613 = true then ((frame_Same.f a0_0 a0_1 a0_2 a0_3 l0_4 a0_0 a0_1 a0_2 a0_3 (l1.take (a0_3 : Int).toNat)).bind fun t614 => ((phaetonref01_SameBytes.f l0_4 (l1.take (a0_3 : Int).toNat)).bind fun t615 => (if (t614 == t615) = true then (some true) else (none)))) else (none))))) else (none)))) else (none)))) else (none))) else (none)) else (none)) else (none)) = some r := by first | (rw [hji43] at H; exact H) | (simp only [hji43] at H ⊢; exact H)
                  (try rw [hji43] at c41b0)
                  (try rw [hji43] at A38)
                  (try rw [hji43] at A39)
                  have hji43w : (IntKind.i64.wrap ((t576.length : Int) - (wrap64 (8 * a0_3)))) = ji43 := (i64_w _).trans hji43
                  by_cases c44 : 0 ≤ (ji43)
                  · rw [if_pos c44] at H
                    have c44b0 := eq_true c44
                    have c44b1 : decide (0 ≤ (ji43)) = true := decide_eq_true c44
                    have c44m : max (ji43) 0 = (ji43) := by omega
                    clear c44
                    by_cases c45 : (ji43) ≤ (t576.length : Int)
                    · rw [if_pos c45] at H
                      have c45b0 := eq_true c45
                      have c45b1 : decide ((ji43) ≤ (t576.length : Int)) = true := decide_eq_true c45
                      clear c45
                      obtain ⟨y582, hy582⟩ : ∃ y_ : List Int, y_ = (t576.take ((ji43) : Int).toNat) := ⟨_, rfl⟩
                      replace H : (if (ji43) ≤ (t579.length : Int) then ((phaetonref01_Same.f kj3 y582 (t579.take ((ji43) : Int).toNat)).bind fun t590 => (if t590 = true then ((phaetonref01_Spread.f kj3 l0_4).bind fun t595 => ((phaetonref01_Same.f kj3 (t576.drop ((ji43) : Int).toNat) t595).bind fun t598 => (if t598 = true then ((phaetonref01_Spread.f kj3 (l1.take (a0_3 : Int).toNat)).bind fun t603 => ((phaetonref01_Same.f kj3 (t579.drop ((ji43) : Int).toNat) t603).bind fun t606 => (if t606 = true then ((frame_Rank.f a0_0 a0_1 a0_2 a0_3 l0_4).bind fun t607 => ((frame_Rank.f a0_0 a0_1 a0_2 a0_3 (l1.take (a0_3 : Int).toNat)).bind fun t610 => ((phaetonref01_Same.f kj3 t607 t610).bind fun t613 => (if t613 = true then ((frame_Same.f a0_0 a0_1 a0_2 a0_3 l0_4 a0_0 a0_1 a0_2 a0_3 (l1.take (a0_3 : Int).toNat)).bind fun t614 => ((phaetonref01_SameBytes.f l0_4 (l1.take (a0_3 : Int).toNat)).bind fun t615 => (if (t614 == t615) = true then (some true) else (none)))) else (none))))) else (none)))) else (none)))) else (none))) else (none)) = some r := by first | (rw [hy582]; with_reducible exact H) | (have H2_ := (Option.bind_some _ _).symm.trans H; rw [hy582]; with_reducible exact H2_) | (have H2_ := (Option.bind_some _ _).symm.trans H; with_reducible exact H2_) | with_reducible exact H | (rw [hy582]; exact H) | exact H
                      have Ny582 := Aside0.mk hy582
                      clear hy582
                      have c46b0 := eq_true (of_decide_eq_true (by first | (with_reducible assumption) | assumption) : 0 ≤ (ji43))
                      by_cases c47 : (ji43) ≤ (t579.length : Int)
                      · rw [if_pos c47] at H
                        have c47b0 := eq_true c47
                        have c47b1 : decide ((ji43) ≤ (t579.length : Int)) = true := decide_eq_true c47
                        clear c47
                        obtain ⟨y586, hy586⟩ : ∃ y_ : List Int, y_ = (t579.take ((ji43) : Int).toNat) := ⟨_, rfl⟩
                        replace H : ((phaetonref01_Same.f kj3 y582 y586).bind fun t590 => (if t590 = true then ((phaetonref01_Spread.f kj3 l0_4).bind fun t595 => ((phaetonref01_Same.f kj3 (t576.drop ((ji43) : Int).toNat) t595).bind fun t598 => (if t598 = true then ((phaetonref01_Spread.f kj3 (l1.take (a0_3 : Int).toNat)).bind fun t603 => ((phaetonref01_Same.f kj3 (t579.drop ((ji43) : Int).toNat) t603).bind fun t606 => (if t606 = true then ((frame_Rank.f a0_0 a0_1 a0_2 a0_3 l0_4).bind fun t607 => ((frame_Rank.f a0_0 a0_1 a0_2 a0_3 (l1.take (a0_3 : Int).toNat)).bind fun t610 => ((phaetonref01_Same.f kj3 t607 t610).bind fun t613 => (if t613 = true then ((frame_Same.f a0_0 a0_1 a0_2 a0_3 l0_4 a0_0 a0_1 a0_2 a0_3 (l1.take (a0_3 : Int).toNat)).bind fun t614 => ((phaetonref01_SameBytes.f l0_4 (l1.take (a0_3 : Int).toNat)).bind fun t615 => (if (t614 == t615) = true then (some true) else (none)))) else (none))))) else (none)))) else (none)))) else (none))) = some r := by first | (rw [hy586]; with_reducible exact H) | (have H2_ := (Option.bind_some _ _).symm.trans H; rw [hy586]; with_reducible exact H2_) | (have H2_ := (Option.bind_some _ _).symm.trans H; with_reducible exact H2_) | with_reducible exact H | (rw [hy586]; exact H) | exact H
                        have Ny586 := Aside0.mk hy586
                        clear hy586
                        replace H := Option.bind_eq_some_iff.mp H
                        obtain ⟨t590, A480, H⟩ := H
                        replace H : (if t590 = true then ((phaetonref01_Spread.f kj3 l0_4).bind fun t595 => ((phaetonref01_Same.f kj3 (t576.drop ((ji43) : Int).toNat) t595).bind fun t598 => (if t598 = true then ((phaetonref01_Spread.f kj3 (l1.take (a0_3 : Int).toNat)).bind fun t603 => ((phaetonref01_Same.f kj3 (t579.drop ((ji43) : Int).toNat) t603).bind fun t606 => (if t606 = true then ((frame_Rank.f a0_0 a0_1 a0_2 a0_3 l0_4).bind fun t607 => ((frame_Rank.f a0_0 a0_1 a0_2 a0_3 (l1.take (a0_3 : Int).toNat)).bind fun t610 => ((phaetonref01_Same.f kj3 t607 t610).bind fun t613 => (if t613 = true then ((frame_Same.f a0_0 a0_1 a0_2 a0_3 l0_4 a0_0 a0_1 a0_2 a0_3 (l1.take (a0_3 : Int).toNat)).bind fun t614 => ((phaetonref01_SameBytes.f l0_4 (l1.take (a0_3 : Int).toNat)).bind fun t615 => (if (t614 == t615) = true then (some true) else (none)))) else (none))))) else (none)))) else (none)))) else (none)) = some r := H
                        have A48 := Aside0.mk A480
                        clear A480
                        by_cases c49 : t590 = true
                        · subst c49
                          have H1 : ((phaetonref01_Spread.f kj3 l0_4).bind fun t595 => ((phaetonref01_Same.f kj3 (t576.drop ((ji43) : Int).toNat) t595).bind fun t598 => (if t598 = true then ((phaetonref01_Spread.f kj3 (l1.take (a0_3 : Int).toNat)).bind fun t603 => ((phaetonref01_Same.f kj3 (t579.drop ((ji43) : Int).toNat) t603).bind fun t606 => (if t606 = true then ((frame_Rank.f a0_0 a0_1 a0_2 a0_3 l0_4).bind fun t607 => ((frame_Rank.f a0_0 a0_1 a0_2 a0_3 (l1.take (a0_3 : Int).toNat)).bind fun t610 => ((phaetonref01_Same.f kj3 t607 t610).bind fun t613 => (if t613 = true then ((frame_Same.f a0_0 a0_1 a0_2 a0_3 l0_4 a0_0 a0_1 a0_2 a0_3 (l1.take (a0_3 : Int).toNat)).bind fun t614 => ((phaetonref01_SameBytes.f l0_4 (l1.take (a0_3 : Int).toNat)).bind fun t615 => (if (t614 == t615) = true then (some true) else (none)))) else (none))))) else (none)))) else (none)))) = some r := by rw [if_pos rfl] at H; exact H
                          clear H
                          have H := H1
                          clear H1
                          have c50b0 := eq_true (of_decide_eq_true (by first | (with_reducible assumption) | assumption) : 0 ≤ (ji43))
                          have c51b0 := eq_true (of_decide_eq_true (by first | (with_reducible assumption) | assumption) : (ji43) ≤ (t576.length : Int))
                          obtain ⟨y591, hy591⟩ : ∃ y_ : List Int, y_ = (t576.drop ((ji43) : Int).toNat) := ⟨_, rfl⟩
                          replace H : ((phaetonref01_Spread.f kj3 l0_4).bind fun t595 => ((phaetonref01_Same.f kj3 y591 t595).bind fun t598 => (if t598 = true then ((phaetonref01_Spread.f kj3 (l1.take (a0_3 : Int).toNat)).bind fun t603 => ((phaetonref01_Same.f kj3 (t579.drop ((ji43) : Int).toNat) t603).bind fun t606 => (if t606 = true then ((frame_Rank.f a0_0 a0_1 a0_2 a0_3 l0_4).bind fun t607 => ((frame_Rank.f a0_0 a0_1 a0_2 a0_3 (l1.take (a0_3 : Int).toNat)).bind fun t610 => ((phaetonref01_Same.f kj3 t607 t610).bind fun t613 => (if t613 = true then ((frame_Same.f a0_0 a0_1 a0_2 a0_3 l0_4 a0_0 a0_1 a0_2 a0_3 (l1.take (a0_3 : Int).toNat)).bind fun t614 => ((phaetonref01_SameBytes.f l0_4 (l1.take (a0_3 : Int).toNat)).bind fun t615 => (if (t614 == t615) = true then (some true) else (none)))) else (none))))) else (none)))) else (none)))) = some r := by first | (rw [hy591]; with_reducible exact H) | (have H2_ := (Option.bind_some _ _).symm.trans H; rw [hy591]; with_reducible exact H2_) | (have H2_ := (Option.bind_some _ _).symm.trans H; with_reducible exact H2_) | with_reducible exact H | (rw [hy591]; exact H) | exact H
                          have Ny591 := Aside0.mk hy591
                          clear hy591
                          replace H := Option.bind_eq_some_iff.mp H
                          obtain ⟨t595, A520, H⟩ := H
                          replace H : ((phaetonref01_Same.f kj3 y591 t595).bind fun t598 => (if t598 = true then ((phaetonref01_Spread.f kj3 (l1.take (a0_3 : Int).toNat)).bind fun t603 => ((phaetonref01_Same.f kj3 (t579.drop ((ji43) : Int).toNat) t603).bind fun t606 => (if t606 = true then ((frame_Rank.f a0_0 a0_1 a0_2 a0_3 l0_4).bind fun t607 => ((frame_Rank.f a0_0 a0_1 a0_2 a0_3 (l1.take (a0_3 : Int).toNat)).bind fun t610 => ((phaetonref01_Same.f kj3 t607 t610).bind fun t613 => (if t613 = true then ((frame_Same.f a0_0 a0_1 a0_2 a0_3 l0_4 a0_0 a0_1 a0_2 a0_3 (l1.take (a0_3 : Int).toNat)).bind fun t614 => ((phaetonref01_SameBytes.f l0_4 (l1.take (a0_3 : Int).toNat)).bind fun t615 => (if (t614 == t615) = true then (some true) else (none)))) else (none))))) else (none)))) else (none))) = some r := H
                          have A52 := Aside0.mk A520
                          clear A520
                          replace H := Option.bind_eq_some_iff.mp H
                          obtain ⟨t598, A530, H⟩ := H
                          replace H : (if t598 = true then ((phaetonref01_Spread.f kj3 (l1.take (a0_3 : Int).toNat)).bind fun t603 => ((phaetonref01_Same.f kj3 (t579.drop ((ji43) : Int).toNat) t603).bind fun t606 => (if t606 = true then ((frame_Rank.f a0_0 a0_1 a0_2 a0_3 l0_4).bind fun t607 => ((frame_Rank.f a0_0 a0_1 a0_2 a0_3 (l1.take (a0_3 : Int).toNat)).bind fun t610 => ((phaetonref01_Same.f kj3 t607 t610).bind fun t613 => (if t613 = true then ((frame_Same.f a0_0 a0_1 a0_2 a0_3 l0_4 a0_0 a0_1 a0_2 a0_3 (l1.take (a0_3 : Int).toNat)).bind fun t614 => ((phaetonref01_SameBytes.f l0_4 (l1.take (a0_3 : Int).toNat)).bind fun t615 => (if (t614 == t615) = true then (some true) else (none)))) else (none))))) else (none)))) else (none)) = some r := H
                          have A53 := Aside0.mk A530
                          clear A530
                          by_cases c54 : t598 = true
                          · subst c54
                            have H1 : ((phaetonref01_Spread.f kj3 (l1.take (a0_3 : Int).toNat)).bind fun t603 => ((phaetonref01_Same.f kj3 (t579.drop ((ji43) : Int).toNat) t603).bind fun t606 => (if t606 = true then ((frame_Rank.f a0_0 a0_1 a0_2 a0_3 l0_4).bind fun t607 => ((frame_Rank.f a0_0 a0_1 a0_2 a0_3 (l1.take (a0_3 : Int).toNat)).bind fun t610 => ((phaetonref01_Same.f kj3 t607 t610).bind fun t613 => (if t613 = true then ((frame_Same.f a0_0 a0_1 a0_2 a0_3 l0_4 a0_0 a0_1 a0_2 a0_3 (l1.take (a0_3 : Int).toNat)).bind fun t614 => ((phaetonref01_SameBytes.f l0_4 (l1.take (a0_3 : Int).toNat)).bind fun t615 => (if (t614 == t615) = true then (some true) else (none)))) else (none))))) else (none)))) = some r := by rw [if_pos rfl] at H; exact H
                            clear H
                            have H := H1
                            clear H1
                            have c55b0 := eq_true (of_decide_eq_true (by first | (with_reducible assumption) | assumption) : 0 ≤ (ji43))
                            have c56b0 := eq_true (of_decide_eq_true (by first | (with_reducible assumption) | assumption) : (ji43) ≤ (t579.length : Int))
                            obtain ⟨y599, hy599⟩ : ∃ y_ : List Int, y_ = (t579.drop ((ji43) : Int).toNat) := ⟨_, rfl⟩
                            replace H : ((phaetonref01_Spread.f kj3 (l1.take (a0_3 : Int).toNat)).bind fun t603 => ((phaetonref01_Same.f kj3 y599 t603).bind fun t606 => (if t606 = true then ((frame_Rank.f a0_0 a0_1 a0_2 a0_3 l0_4).bind fun t607 => ((frame_Rank.f a0_0 a0_1 a0_2 a0_3 (l1.take (a0_3 : Int).toNat)).bind fun t610 => ((phaetonref01_Same.f kj3 t607 t610).bind fun t613 => (if t613 = true then ((frame_Same.f a0_0 a0_1 a0_2 a0_3 l0_4 a0_0 a0_1 a0_2 a0_3 (l1.take (a0_3 : Int).toNat)).bind fun t614 => ((phaetonref01_SameBytes.f l0_4 (l1.take (a0_3 : Int).toNat)).bind fun t615 => (if (t614 == t615) = true then (some true) else (none)))) else (none))))) else (none)))) = some r := by first | (rw [hy599]; with_reducible exact H) | (have H2_ := (Option.bind_some _ _).symm.trans H; rw [hy599]; with_reducible exact H2_) | (have H2_ := (Option.bind_some _ _).symm.trans H; with_reducible exact H2_) | with_reducible exact H | (rw [hy599]; exact H) | exact H
                            have Ny599 := Aside0.mk hy599
                            clear hy599
                            replace H := Option.bind_eq_some_iff.mp H
                            obtain ⟨t603, A570, H⟩ := H
                            replace H : ((phaetonref01_Same.f kj3 y599 t603).bind fun t606 => (if t606 = true then ((frame_Rank.f a0_0 a0_1 a0_2 a0_3 l0_4).bind fun t607 => ((frame_Rank.f a0_0 a0_1 a0_2 a0_3 (l1.take (a0_3 : Int).toNat)).bind fun t610 => ((phaetonref01_Same.f kj3 t607 t610).bind fun t613 => (if t613 = true then ((frame_Same.f a0_0 a0_1 a0_2 a0_3 l0_4 a0_0 a0_1 a0_2 a0_3 (l1.take (a0_3 : Int).toNat)).bind fun t614 => ((phaetonref01_SameBytes.f l0_4 (l1.take (a0_3 : Int).toNat)).bind fun t615 => (if (t614 == t615) = true then (some true) else (none)))) else (none))))) else (none))) = some r := H
                            have A57 := Aside0.mk A570
                            clear A570
                            replace H := Option.bind_eq_some_iff.mp H
                            obtain ⟨t606, A580, H⟩ := H
                            replace H : (if t606 = true then ((frame_Rank.f a0_0 a0_1 a0_2 a0_3 l0_4).bind fun t607 => ((frame_Rank.f a0_0 a0_1 a0_2 a0_3 (l1.take (a0_3 : Int).toNat)).bind fun t610 => ((phaetonref01_Same.f kj3 t607 t610).bind fun t613 => (if t613 = true then ((frame_Same.f a0_0 a0_1 a0_2 a0_3 l0_4 a0_0 a0_1 a0_2 a0_3 (l1.take (a0_3 : Int).toNat)).bind fun t614 => ((phaetonref01_SameBytes.f l0_4 (l1.take (a0_3 : Int).toNat)).bind fun t615 => (if (t614 == t615) = true then (some true) else (none)))) else (none))))) else (none)) = some r := H
                            have A58 := Aside0.mk A580
                            clear A580
                            by_cases c59 : t606 = true
                            · subst c59
                              have H1 : ((frame_Rank.f a0_0 a0_1 a0_2 a0_3 l0_4).bind fun t607 => ((frame_Rank.f a0_0 a0_1 a0_2 a0_3 (l1.take (a0_3 : Int).toNat)).bind fun t610 => ((phaetonref01_Same.f kj3 t607 t610).bind fun t613 => (if t613 = true then ((frame_Same.f a0_0 a0_1 a0_2 a0_3 l0_4 a0_0 a0_1 a0_2 a0_3 (l1.take (a0_3 : Int).toNat)).bind fun t614 => ((phaetonref01_SameBytes.f l0_4 (l1.take (a0_3 : Int).toNat)).bind fun t615 => (if (t614 == t615) = true then (some true) else (none)))) else (none))))) = some r := by rw [if_pos rfl] at H; exact H
                              clear H
                              have H := H1
                              clear H1
                              replace H := Option.bind_eq_some_iff.mp H
                              obtain ⟨t607, A600, H⟩ := H
                              replace H : ((frame_Rank.f a0_0 a0_1 a0_2 a0_3 (l1.take (a0_3 : Int).toNat)).bind fun t610 => ((phaetonref01_Same.f kj3 t607 t610).bind fun t613 => (if t613 = true then ((frame_Same.f a0_0 a0_1 a0_2 a0_3 l0_4 a0_0 a0_1 a0_2 a0_3 (l1.take (a0_3 : Int).toNat)).bind fun t614 => ((phaetonref01_SameBytes.f l0_4 (l1.take (a0_3 : Int).toNat)).bind fun t615 => (if (t614 == t615) = true then (some true) else (none)))) else (none)))) = some r := H
                              have A60 := Aside0.mk A600
                              clear A600
                              replace H := Option.bind_eq_some_iff.mp H
                              obtain ⟨t610, A610, H⟩ := H
                              replace H : ((phaetonref01_Same.f kj3 t607 t610).bind fun t613 => (if t613 = true then ((frame_Same.f a0_0 a0_1 a0_2 a0_3 l0_4 a0_0 a0_1 a0_2 a0_3 (l1.take (a0_3 : Int).toNat)).bind fun t614 => ((phaetonref01_SameBytes.f l0_4 (l1.take (a0_3 : Int).toNat)).bind fun t615 => (if (t614 == t615) = true then (some true) else (none)))) else (none))) = some r := H
                              have A61 := Aside0.mk A610
                              clear A610
                              replace H := Option.bind_eq_some_iff.mp H
                              obtain ⟨t613, A620, H⟩ := H
                              replace H : (if t613 = true then ((frame_Same.f a0_0 a0_1 a0_2 a0_3 l0_4 a0_0 a0_1 a0_2 a0_3 (l1.take (a0_3 : Int).toNat)).bind fun t614 => ((phaetonref01_SameBytes.f l0_4 (l1.take (a0_3 : Int).toNat)).bind fun t615 => (if (t614 == t615) = true then (some true) else (none)))) else (none)) = some r := H
                              have A62 := Aside0.mk A620
                              clear A620
                              by_cases c63 : t613 = true
                              · subst c63
                                have H1 : ((frame_Same.f a0_0 a0_1 a0_2 a0_3 l0_4 a0_0 a0_1 a0_2 a0_3 (l1.take (a0_3 : Int).toNat)).bind fun t614 => ((phaetonref01_SameBytes.f l0_4 (l1.take (a0_3 : Int).toNat)).bind fun t615 => (if (t614 == t615) = true then (some true) else (none)))) = some r := by rw [if_pos rfl] at H; exact H
                                clear H
                                have H := H1
                                clear H1
                                replace H := Option.bind_eq_some_iff.mp H
                                obtain ⟨t614, A640, H⟩ := H
                                replace H : ((phaetonref01_SameBytes.f l0_4 (l1.take (a0_3 : Int).toNat)).bind fun t615 => (if (t614 == t615) = true then (some true) else (none))) = some r := H
                                have A64 := Aside0.mk A640
                                clear A640
                                replace H := Option.bind_eq_some_iff.mp H
                                obtain ⟨t615, A650, H⟩ := H
                                replace H : (if (t614 == t615) = true then (some true) else (none)) = some r := H
                                have A65 := Aside0.mk A650
                                clear A650
                                by_cases c66 : (t614 == t615) = true
                                · rw [if_pos c66] at H
                                  have c66b0 : (t614 == t615) = true := c66
                                  (try (have c66b1 : decide (t614 = t615) = true := by simpa using c66))
                                  (try (have c66b2 : (t614 == t615) = true := by simpa using c66))
                                  clear c66
                                  obtain rfl := Option.some.inj H
                                  have hcz67_0 : wc.cell? ⟨gb570, 0, none⟩ = some (.bool a0_0) := (blk_cell BK570.out 0).trans rfl
                                  have hcz67_1 : wc.cell? ⟨gb570, 1, none⟩ = some (.int .i64 a0_1) := (blk_cell BK570.out 1).trans rfl
                                  have hcz67_2 : wc.cell? ⟨gb570, 2, none⟩ = some (.bool a0_2) := (blk_cell BK570.out 2).trans rfl
                                  have hcz67_3 : wc.cell? ⟨gb570, 3, none⟩ = some (.int .i64 a0_3) := (blk_cell BK570.out 3).trans rfl
                                  have hcz67_4 : wc.cell? ⟨gb570, 4, none⟩ = some (.slice A0_4 l0_4.length c0_4) := (blk_cell BK570.out 4).trans rfl
                                  have hfz67_0 := blk_frozen BK570.out 0
                                  have hfz67_1 := blk_frozen BK570.out 1
                                  have hfz67_2 := blk_frozen BK570.out 2
                                  have hfz67_3 := blk_frozen BK570.out 3
                                  have hfz67_4 := blk_frozen BK570.out 4
                                  try go_wp2_with (first | ((with_reducible refine gate_store (t := 24) (p := 6) rfl ?_); refine HW.store_box2 rfl rfl 24 _ _ rfl rfl rfl BK574.out rfl (by kernel_rfl) (by intro q hq; simp only [List.mem_cons, List.not_mem_nil, or_false] at hq; rcases hq with rfl | rfl | rfl | rfl | rfl <;> rfl) ?_; intro w1_ hw1_ hk1_; simp only [List.toList_toArray, World.setCells, Nat.zero_add, Nat.reduceAdd] at hw1_; subst hw1_; have hcb574_0 := (blk_cell hk1_ 0).trans rfl; have hfb574_0 := blk_frozen hk1_ 0; have hcb574_1 := (blk_cell hk1_ 1).trans rfl; have hfb574_1 := blk_frozen hk1_ 1; have hcb574_2 := (blk_cell hk1_ 2).trans rfl; have hfb574_2 := blk_frozen hk1_ 2; have hcb574_3 := (blk_cell hk1_ 3).trans rfl; have hfb574_3 := blk_frozen hk1_ 3; have hcb574_4 := (blk_cell hk1_ 4).trans rfl; have hfb574_4 := blk_frozen hk1_ 4; clear hk1_) | ((with_reducible refine gate_store (t := 24) (p := 2) rfl ?_); refine HW.store_box2 rfl rfl 24 _ _ rfl rfl rfl BK570.out rfl (by kernel_rfl) (by intro q hq; simp only [List.mem_cons, List.not_mem_nil, or_false] at hq; rcases hq with rfl | rfl | rfl | rfl | rfl <;> rfl) ?_; intro w1_ hw1_ hk1_; simp only [List.toList_toArray, World.setCells, Nat.zero_add, Nat.reduceAdd] at hw1_; subst hw1_; have hcb570_0 := (blk_cell hk1_ 0).trans rfl; have hfb570_0 := blk_frozen hk1_ 0; have hcb570_1 := (blk_cell hk1_ 1).trans rfl; have hfb570_1 := blk_frozen hk1_ 1; have hcb570_2 := (blk_cell hk1_ 2).trans rfl; have hfb570_2 := blk_frozen hk1_ 2; have hcb570_3 := (blk_cell hk1_ 3).trans rfl; have hfb570_3 := blk_frozen hk1_ 3; have hcb570_4 := (blk_cell hk1_ 4).trans rfl; have hfb570_4 := blk_frozen hk1_ 4; clear hk1_) | ((with_reducible refine gate_dst (N := 6) rfl ?_); (try (refine gate_guard (by rfl) ?_; dsimp only)); refine box_event ?hg (N := 6) ?hd (cs := #[.bool false, .int .i64 0, .bool false, .int .i64 0, .slice none 0 0]) (t := 24) ?hr ?_; (case hd => rfl); (case hg => rfl); (case hr => first | (go_simp; done) | (go_simp; rfl)); intro gb574 hg w68 hbox hb; have n0_ := Aside0.mk (blk_below (g := gb570) (o := .cells #[.bool a0_0, .int .i64 a0_1, .bool a0_2, .int .i64 a0_3, .slice A0_4 l0_4.length c0_4] 24 (0, 0)) (by (with_reducible repeat (first | refine blk_drewN ?_ _ | refine blk_drew ?_ | refine blk_alloc ?_ _)); exact BK570.out) hb); have n1_ := Aside0.mk (below_step (by repeat (first | (with_reducible first | exact HB.out | apply below_alloc | apply pw_below_drewN | apply below_drew1 | refine below_set ?_ GE570.out) | exact HB.out)) hb); have n2_ := Aside0.mk (hbox); have n3_ := Aside0.mk ((by rw [hg]; exact (below_size (by repeat (first | (with_reducible first | exact HB.out | apply below_alloc | apply pw_below_drewN | apply below_drew1 | refine below_set ?_ GE570.out) | exact HB.out))) : w.heap.size ≤ gb574)); have n4_ := Aside0.mk ((by rw [hg]; exact (below_size (by repeat (first | (with_reducible first | exact HB.out | apply below_alloc | apply pw_below_drewN | apply below_drew1 | refine below_set ?_ GE570.out) | exact HB.out))) : w.heap.size ≤ gb574)); have n5_ := Aside0.mk ((by rw [hg]; exact Nat.ne_of_lt (blk_lt (g := gb570) (o := .cells #[.bool a0_0, .int .i64 a0_1, .bool a0_2, .int .i64 a0_3, .slice A0_4 l0_4.length c0_4] 24 (0, 0)) (by (with_reducible repeat (first | refine blk_drewN ?_ _ | refine blk_drew ?_ | refine blk_alloc ?_ _)); exact BK570.out)) : gb570 ≠ gb574)); have n6_ := Aside0.mk ((by rw [hg]; exact Nat.ne_of_gt (blk_lt (g := gb570) (o := .cells #[.bool a0_0, .int .i64 a0_1, .bool a0_2, .int .i64 a0_3, .slice A0_4 l0_4.length c0_4] 24 (0, 0)) (by (with_reducible repeat (first | refine blk_drewN ?_ _ | refine blk_drew ?_ | refine blk_alloc ?_ _)); exact BK570.out)) : gb574 ≠ gb570)); clear BK570; clear HB; have BK570 := n0_; have HB := n1_; have BK574 := n2_; have GW574 := n3_; have GE574 := n4_; have NB570_574 := n5_; have NB574_570 := n6_; clear n0_ n1_ n2_ n3_ n4_ n5_ n6_; clear hb hbox hg; have hnb69 := NB574_570.out; have hnc69 := NB570_574.out; have hcz70_0 : w68.cell? ⟨gb574, 0, none⟩ = some (.bool false) := (blk_cell BK574.out 0).trans rfl; have hcz70_1 : w68.cell? ⟨gb574, 1, none⟩ = some (.int .i64 0) := (blk_cell BK574.out 1).trans rfl; have hcz70_2 : w68.cell? ⟨gb574, 2, none⟩ = some (.bool false) := (blk_cell BK574.out 2).trans rfl; have hcz70_3 : w68.cell? ⟨gb574, 3, none⟩ = some (.int .i64 0) := (blk_cell BK574.out 3).trans rfl; have hcz70_4 : w68.cell? ⟨gb574, 4, none⟩ = some (.slice none 0 0) := (blk_cell BK574.out 4).trans rfl; have hfz70_0 := blk_frozen BK574.out 0; have hfz70_1 := blk_frozen BK574.out 1; have hfz70_2 := blk_frozen BK574.out 2; have hfz70_3 := blk_frozen BK574.out 3; have hfz70_4 := blk_frozen BK574.out 4; have hcz71_0 : w68.cell? ⟨gb570, 0, none⟩ = some (.bool a0_0) := (blk_cell BK570.out 0).trans rfl; have hcz71_1 : w68.cell? ⟨gb570, 1, none⟩ = some (.int .i64 a0_1) := (blk_cell BK570.out 1).trans rfl; have hcz71_2 : w68.cell? ⟨gb570, 2, none⟩ = some (.bool a0_2) := (blk_cell BK570.out 2).trans rfl; have hcz71_3 : w68.cell? ⟨gb570, 3, none⟩ = some (.int .i64 a0_3) := (blk_cell BK570.out 3).trans rfl; have hcz71_4 : w68.cell? ⟨gb570, 4, none⟩ = some (.slice A0_4 l0_4.length c0_4) := (blk_cell BK570.out 4).trans rfl; have hfz71_0 := blk_frozen BK570.out 0; have hfz71_1 := blk_frozen BK570.out 1; have hfz71_2 := blk_frozen BK570.out 2; have hfz71_3 := blk_frozen BK570.out 3; have hfz71_4 := blk_frozen BK570.out 4; obtain ⟨i072, hi072, _, hsz72, _⟩ := info_parts info5; obtain ⟨hcut72, hA72, hC72⟩ := print_take_of (P := Try.prog) (Value.int .u8) 0 22 5 .i64 Try.underlying22 hi072 hsz72 A1 c1 l1 a0_3 (of_decide_eq_true (by first | (with_reducible assumption) | assumption)) (of_decide_eq_true (by first | (with_reducible assumption) | assumption)) HC1.out; have HR575 := Aside0.mk (Kd.C_of_reads (h1 := fun _ => rfl) (hA72 _ (Kd.reads_of_C HR1.out))); have HC575 := Aside0.mk hC72; clear hA72 hC72 hi072 hsz72) | ((with_reducible refine gate_callee (f := 17) rfl ?_); refine goesL_ (some 42) rfl rfl Try.func17 (by kernel_rfl) rfl #[.agg #[.bool a0_0, .int .i64 a0_1, .bool a0_2, .int .i64 a0_3, .slice A0_4 l0_4.length c0_4]] rfl (by (try simp only [List.map_toArray, List.map_cons, List.map_nil]); first | done | rfl | (simp only [List.length_drop, List.length_take]; rfl)) ?_; (with_reducible refine (frame_Head.calls a0_0 a0_1 a0_2 a0_3 _ _ l0_4 t576 _ ?side1 ?side2 A38.out).mono ?_); (case side1 => exact Kd.C_below HR0_4.out (by repeat (first | (with_reducible first | exact HB.out | apply below_alloc | apply pw_below_drewN | apply below_drew1 | refine below_set ?_ GE570.out | refine below_set ?_ GE574.out) | exact HB.out))); (case side2 => exact HC0_4.out); rintro e w73 ⟨v577, rfl, ho0, hb⟩; refine ⟨_, rfl, ?_⟩; have n0_ := Aside0.mk (Kd.R_lower ho0 (below_size (by repeat (first | (with_reducible first | exact HB.out | apply below_alloc | apply pw_below_drewN | apply below_drew1 | refine below_set ?_ GE570.out | refine below_set ?_ GE574.out) | exact HB.out)))); have n1_ := Aside0.mk (blk_below (g := gb570) (o := .cells #[.bool a0_0, .int .i64 a0_1, .bool a0_2, .int .i64 a0_3, .slice A0_4 l0_4.length c0_4] 24 (0, 0)) (by (with_reducible repeat (first | refine blk_drewN ?_ _ | refine blk_drew ?_ | refine blk_alloc ?_ _)); refine blk_far ?_ NB570_574.out _; (with_reducible repeat (first | refine blk_drewN ?_ _ | refine blk_drew ?_ | refine blk_alloc ?_ _)); refine blk_far ?_ NB570_574.out _; (with_reducible repeat (first | refine blk_drewN ?_ _ | refine blk_drew ?_ | refine blk_alloc ?_ _)); refine blk_far ?_ NB570_574.out _; (with_reducible repeat (first | refine blk_drewN ?_ _ | refine blk_drew ?_ | refine blk_alloc ?_ _)); refine blk_far ?_ NB570_574.out _; (with_reducible repeat (first | refine blk_drewN ?_ _ | refine blk_drew ?_ | refine blk_alloc ?_ _)); refine blk_far ?_ NB570_574.out _; (with_reducible repeat (first | refine blk_drewN ?_ _ | refine blk_drew ?_ | refine blk_alloc ?_ _)); refine blk_far ?_ NB570_574.out _; (with_reducible repeat (first | refine blk_drewN ?_ _ | refine blk_drew ?_ | refine blk_alloc ?_ _)); exact BK570.out) hb); have n2_ := Aside0.mk (blk_below (g := gb574) (o := .cells #[.bool a0_0, .int .i64 a0_1, .bool a0_2, .int .i64 a0_3, .slice A1 (a0_3 : Int).toNat c1] 24 (0, 0)) (by (with_reducible repeat (first | refine blk_drewN ?_ _ | refine blk_drew ?_ | refine blk_alloc ?_ _)); refine blk_put (cs := #[.bool a0_0, .int .i64 a0_1, .bool a0_2, .int .i64 a0_3, .slice A0_4 l0_4.length c0_4]) ?_ 4 _ rfl; (with_reducible repeat (first | refine blk_drewN ?_ _ | refine blk_drew ?_ | refine blk_alloc ?_ _)); refine blk_put (cs := #[.bool a0_0, .int .i64 a0_1, .bool a0_2, .int .i64 a0_3, .slice none 0 0]) ?_ 4 _ rfl; (with_reducible repeat (first | refine blk_drewN ?_ _ | refine blk_drew ?_ | refine blk_alloc ?_ _)); refine blk_put (cs := #[.bool a0_0, .int .i64 a0_1, .bool a0_2, .int .i64 0, .slice none 0 0]) ?_ 3 _ rfl; (with_reducible repeat (first | refine blk_drewN ?_ _ | refine blk_drew ?_ | refine blk_alloc ?_ _)); refine blk_put (cs := #[.bool a0_0, .int .i64 a0_1, .bool false, .int .i64 0, .slice none 0 0]) ?_ 2 _ rfl; (with_reducible repeat (first | refine blk_drewN ?_ _ | refine blk_drew ?_ | refine blk_alloc ?_ _)); refine blk_put (cs := #[.bool a0_0, .int .i64 0, .bool false, .int .i64 0, .slice none 0 0]) ?_ 1 _ rfl; (with_reducible repeat (first | refine blk_drewN ?_ _ | refine blk_drew ?_ | refine blk_alloc ?_ _)); refine blk_put (cs := #[.bool false, .int .i64 0, .bool false, .int .i64 0, .slice none 0 0]) ?_ 0 _ rfl; (with_reducible repeat (first | refine blk_drewN ?_ _ | refine blk_drew ?_ | refine blk_alloc ?_ _)); exact BK574.out) hb); have h_ : (a0_3 : Int) ≤ (l1.length : Int) := of_decide_eq_true (by first | (with_reducible assumption) | assumption); have h2_ : (l1.take (a0_3 : Int).toNat).length = a0_3.toNat := (by rw [List.length_take]; omega); have h3_ := n2_.out; rw [← h2_] at h3_; have n2_ := Aside0.mk h3_; clear h3_ h2_ h_; have n3_ := Aside0.mk (below_step (by repeat (first | (with_reducible first | exact HB.out | apply below_alloc | apply pw_below_drewN | apply below_drew1 | refine below_set ?_ GE570.out | refine below_set ?_ GE574.out) | exact HB.out)) hb); clear BK570; clear BK574; clear HB; have HO578 := n0_; have BK570 := n1_; have BK574 := n2_; have HB := n3_; clear n0_ n1_ n2_ n3_; (try clear hb); (try clear hb2); (try clear hk); (try clear hi); (try clear ho0); have hcz74_0 : w73.cell? ⟨gb574, 0, none⟩ = some (.bool a0_0) := (blk_cell BK574.out 0).trans rfl; have hcz74_1 : w73.cell? ⟨gb574, 1, none⟩ = some (.int .i64 a0_1) := (blk_cell BK574.out 1).trans rfl; have hcz74_2 : w73.cell? ⟨gb574, 2, none⟩ = some (.bool a0_2) := (blk_cell BK574.out 2).trans rfl; have hcz74_3 : w73.cell? ⟨gb574, 3, none⟩ = some (.int .i64 a0_3) := (blk_cell BK574.out 3).trans rfl; have hcz74_4 : w73.cell? ⟨gb574, 4, none⟩ = some (.slice A1 (l1.take (a0_3 : Int).toNat).length c1) := (blk_cell BK574.out 4).trans rfl; have hfz74_0 := blk_frozen BK574.out 0; have hfz74_1 := blk_frozen BK574.out 1; have hfz74_2 := blk_frozen BK574.out 2; have hfz74_3 := blk_frozen BK574.out 3; have hfz74_4 := blk_frozen BK574.out 4) | ((with_reducible refine gate_callee (f := 17) rfl ?_); refine goesL_ (some 44) rfl rfl Try.func17 (by kernel_rfl) rfl #[.agg #[.bool a0_0, .int .i64 a0_1, .bool a0_2, .int .i64 a0_3, .slice A1 (l1.take (a0_3 : Int).toNat).length c1]] rfl (by (try simp only [List.map_toArray, List.map_cons, List.map_nil]); first | done | (rw [show (l1.take (a0_3 : Int).toNat).length = a0_3.toNat from (by rw [List.length_take]; have h_ : (a0_3 : Int) ≤ (l1.length : Int) := of_decide_eq_true (by first | (with_reducible assumption) | assumption); omega)] <;> rfl) | rfl | (simp only [List.length_drop, List.length_take]; rfl)) ?_; (with_reducible refine (frame_Head.calls a0_0 a0_1 a0_2 a0_3 _ _ (l1.take (a0_3 : Int).toNat) t579 _ ?side1 ?side2 A39.out).mono ?_); (case side1 => repeat (first | exact (Kd.C_below HR575.out HB.out) | (with_reducible refine Kd.C_alloc ?_ _) | (with_reducible refine Kd.C_drewN ?_ _) | (with_reducible refine Kd.C_drew ?_))); (case side2 => exact HC575.out); rintro e w75 ⟨v580, rfl, ho0, hb⟩; refine ⟨_, rfl, ?_⟩; have n0_ := Aside0.mk (Kd.R_elder' (by (with_reducible repeat (first | apply Kd.R_alloc | apply Kd.R_drewN | apply Kd.R_drew)); exact HO578.out) (Kd.R_base ho0) hb); have n1_ := Aside0.mk (Kd.R_lower (Kd.R_new' ho0 (Kd.R_lt (by (with_reducible repeat (first | apply Kd.R_alloc | apply Kd.R_drewN | apply Kd.R_drew)); exact HO578.out))) (below_size (by repeat (first | (with_reducible first | exact HB.out | apply below_alloc | apply pw_below_drewN | apply below_drew1 | refine below_set ?_ GE570.out | refine below_set ?_ GE574.out) | exact HB.out)))); have n2_ := Aside0.mk (blk_below (g := gb570) (o := .cells #[.bool a0_0, .int .i64 a0_1, .bool a0_2, .int .i64 a0_3, .slice A0_4 l0_4.length c0_4] 24 (0, 0)) (by (with_reducible repeat (first | refine blk_drewN ?_ _ | refine blk_drew ?_ | refine blk_alloc ?_ _)); exact BK570.out) hb); have n3_ := Aside0.mk (blk_below (g := gb574) (o := .cells #[.bool a0_0, .int .i64 a0_1, .bool a0_2, .int .i64 a0_3, .slice A1 (l1.take (a0_3 : Int).toNat).length c1] 24 (0, 0)) (by (with_reducible repeat (first | refine blk_drewN ?_ _ | refine blk_drew ?_ | refine blk_alloc ?_ _)); exact BK574.out) hb); have n4_ := Aside0.mk (below_step (by repeat (first | (with_reducible first | exact HB.out | apply below_alloc | apply pw_below_drewN | apply below_drew1 | refine below_set ?_ GE570.out | refine below_set ?_ GE574.out) | exact HB.out)) hb); clear HO578; clear BK570; clear BK574; clear HB; have HO578 := n0_; have HO581 := n1_; have BK570 := n2_; have BK574 := n3_; have HB := n4_; clear n0_ n1_ n2_ n3_ n4_; (try clear hb); (try clear hb2); (try clear hk); (try clear hi); (try clear ho0); obtain ⟨Ao76, co76, eo76⟩ := Kd.R_slice HO578.out; subst eo76; have hcz77_0 : w75.cell? ⟨gb570, 0, none⟩ = some (.bool a0_0) := (blk_cell BK570.out 0).trans rfl; have hcz77_1 : w75.cell? ⟨gb570, 1, none⟩ = some (.int .i64 a0_1) := (blk_cell BK570.out 1).trans rfl; have hcz77_2 : w75.cell? ⟨gb570, 2, none⟩ = some (.bool a0_2) := (blk_cell BK570.out 2).trans rfl; have hcz77_3 : w75.cell? ⟨gb570, 3, none⟩ = some (.int .i64 a0_3) := (blk_cell BK570.out 3).trans rfl; have hcz77_4 : w75.cell? ⟨gb570, 4, none⟩ = some (.slice A0_4 l0_4.length c0_4) := (blk_cell BK570.out 4).trans rfl; have hfz77_0 := blk_frozen BK570.out 0; have hfz77_1 := blk_frozen BK570.out 1; have hfz77_2 := blk_frozen BK570.out 2; have hfz77_3 := blk_frozen BK570.out 3; have hfz77_4 := blk_frozen BK570.out 4))
                                  have n0_ := Aside0.mk (Kd.R_drew HO578.out)
                                  have n1_ := Aside0.mk (Kd.R_drew HO581.out)
                                  have n2_ := Aside0.mk (blk_drew BK570.out)
                                  have n3_ := Aside0.mk (blk_drew BK574.out)
                                  have n4_ := Aside0.mk (below_drew1 HB.out)
                                  clear HO578
                                  clear HO581
                                  clear BK570
                                  clear BK574
                                  clear HB
                                  have HO578 := n0_
                                  have HO581 := n1_
                                  have BK570 := n2_
                                  have BK574 := n3_
                                  have HB := n4_
                                  clear n0_ n1_ n2_ n3_ n4_
                                  obtain ⟨Ao79, co79, eo79⟩ := Kd.R_slice HO581.out
                                  (first | subst eo79 | (injection eo79 with f1_ f2_ f3_; have f4_ := f1_.symm; have f5_ := f3_.symm; clear f1_ f2_ f3_; subst f4_; subst f5_))
                                  have q80 : ((ji43) : Int) ≤ ((t576.length : Int) : Int) := of_decide_eq_true (by first | (with_reducible assumption) | assumption)
                                  obtain ⟨i080, hi080, _, hsz80, _⟩ := info_parts info3
                                  have hroom80 : t576.length ≤ co76 := (Kd.R_reads' HO578.out).2.1
                                  have hC80 : Kd.C (Kd.int .i64) _ Ao76 t576.length t576 := (Kd.R_reads' HO578.out).2.2
                                  have hcut80 := cut_to (P := Try.prog) 25 3 .i64 Try.underlying25 hi080 Ao76 t576.length co76 (ji43) (of_decide_eq_true (by first | (with_reducible assumption) | assumption)) q80 hroom80
                                  have hr80 := Kd.C_take (m := ((ji43) : Int).toNat) hC80 (by omega)
                                  have hy80 : y582.length = ((ji43) : Int).toNat := (by rw [Ny582.out, List.length_take]; omega)
                                  rw [← Ny582.out] at hr80
                                  rw [← hy80] at hcut80
                                  have HR585 := Aside0.mk hr80
                                  have HC585 := Aside0.mk (show y582.length ≤ co76 from by omega)
                                  clear hr80 hC80 hroom80 hi080 hsz80
                                  have KY80 := Aside0.mk hy80
                                  clear hy80
                                  have KL80 := Aside0.mk (show ((ji43) : Int).toNat ≤ t576.length from by omega)
                                  replace q80 := eq_true q80
                                  have q81 : ((ji43) : Int) ≤ ((t579.length : Int) : Int) := of_decide_eq_true (by first | (with_reducible assumption) | assumption)
                                  obtain ⟨i081, hi081, _, hsz81, _⟩ := info_parts info3
                                  have hroom81 : t579.length ≤ co79 := (Kd.R_reads' HO581.out).2.1
                                  have hC81 : Kd.C (Kd.int .i64) _ Ao79 t579.length t579 := (Kd.R_reads' HO581.out).2.2
                                  have hcut81 := cut_to (P := Try.prog) 25 3 .i64 Try.underlying25 hi081 Ao79 t579.length co79 (ji43) (of_decide_eq_true (by first | (with_reducible assumption) | assumption)) q81 hroom81
                                  have hr81 := Kd.C_take (m := ((ji43) : Int).toNat) hC81 (by omega)
                                  have hy81 : y586.length = ((ji43) : Int).toNat := (by rw [Ny586.out, List.length_take]; omega)
                                  rw [← Ny586.out] at hr81
                                  rw [← hy81] at hcut81
                                  have HR589 := Aside0.mk hr81
                                  have HC589 := Aside0.mk (show y586.length ≤ co79 from by omega)
                                  clear hr81 hC81 hroom81 hi081 hsz81
                                  have KY81 := Aside0.mk hy81
                                  clear hy81
                                  have KL81 := Aside0.mk (show ((ji43) : Int).toNat ≤ t579.length from by omega)
                                  replace q81 := eq_true q81
                                  refine start_ (n := 58) (S := fun w' => w'.cell? ⟨gb570, 0, none⟩ = some (.bool a0_0) ∧ w'.cell? ⟨gb570, 1, none⟩ = some (.int .i64 a0_1) ∧ w'.cell? ⟨gb570, 2, none⟩ = some (.bool a0_2) ∧ w'.cell? ⟨gb570, 3, none⟩ = some (.int .i64 a0_3) ∧ w'.cell? ⟨gb570, 4, none⟩ = some (.slice A0_4 l0_4.length c0_4) ∧ w'.cell? ⟨gb574, 0, none⟩ = some (.bool a0_0) ∧ w'.cell? ⟨gb574, 1, none⟩ = some (.int .i64 a0_1) ∧ w'.cell? ⟨gb574, 2, none⟩ = some (.bool a0_2) ∧ w'.cell? ⟨gb574, 3, none⟩ = some (.int .i64 a0_3) ∧ w'.cell? ⟨gb574, 4, none⟩ = some (.slice A1 (l1.take (a0_3 : Int).toNat).length c1)) (ds := []) #[false, false, false, false, false, false, false, false, false, false, false, false, false, false, false, false, false, false, false, false, false, false, false, false, false, false, false, false, false, false, false, false, false, false, false, false, false, false, false, false, false, false, false, false, false, false, false, false, false, false, false, false, false, false, false, false, false, false] (by kernel_rfl) rfl rfl ⟨(blk_cell BK570.out 0).trans rfl, (blk_cell BK570.out 1).trans rfl, (blk_cell BK570.out 2).trans rfl, (blk_cell BK570.out 3).trans rfl, (blk_cell BK570.out 4).trans rfl, (blk_cell BK574.out 0).trans rfl, (blk_cell BK574.out 1).trans rfl, (blk_cell BK574.out 2).trans rfl, (blk_cell BK574.out 3).trans rfl, (blk_cell BK574.out 4).trans rfl⟩ (fun hHeld => ?_); refine with_tabW phaetonlaw04_FrameData.tab9 phaetonlaw04_FrameData.bits9 (fun HT_ HW_ => ?_)
                                  generalize w75.drew = w78 at HO578 HO581 BK570 BK574 HB HR585 HR589 hHeld ⊢
                                  refine pure_ (i := 0) (N := some 51) (v := ?_) (a' := ?_) #[true, false, false, false, false, false, false, false, false, false, false, false, false, false, false, false, false, false, false, false, false, false, false, false, false, false, false, false, false, false, false, false, false, false, false, false, false, false, false, false, false, false, false, false, false, false, false, false, false, false, false, false, false, false, false, false, false, false] rfl rfl (any_of HT_.out (by kernel_rfl)) (fun _ _ _ h => h) (Or.inl ⟨by rfl, ?_⟩) ?_ ?_
                                  rotate_left
                                  · intro w'
                                    go_simp
                                    with_reducible rfl
                                  rotate_left
                                  · simp only [Act.put, List.setIfInBounds_toArray, List.set_cons_zero, List.set_cons_succ, i64_w, i32_w]
                                    rfl
                                  refine pure_ (i := 1) (N := some 52) (v := ?_) (a' := ?_) #[true, true, false, false, false, false, false, false, false, false, false, false, false, false, false, false, false, false, false, false, false, false, false, false, false, false, false, false, false, false, false, false, false, false, false, false, false, false, false, false, false, false, false, false, false, false, false, false, false, false, false, false, false, false, false, false, false, false] rfl rfl (any_of HT_.out (by kernel_rfl)) (fun _ _ _ h => h) (Or.inl ⟨by rfl, ?_⟩) ?_ ?_
                                  rotate_left
                                  · intro w'
                                    go_simp
                                    with_reducible rfl
                                  rotate_left
                                  · simp only [Act.put, List.setIfInBounds_toArray, List.set_cons_zero, List.set_cons_succ, i64_w, i32_w]
                                    rfl
                                  refine pure_ (i := 2) (N := some 53) (v := ?_) (a' := ?_) #[true, true, true, false, false, false, false, false, false, false, false, false, false, false, false, false, false, false, false, false, false, false, false, false, false, false, false, false, false, false, false, false, false, false, false, false, false, false, false, false, false, false, false, false, false, false, false, false, false, false, false, false, false, false, false, false, false, false] rfl rfl (any_of HT_.out (by kernel_rfl)) (fun _ _ _ h => h) (Or.inl ⟨by rfl, ?_⟩) ?_ ?_
                                  rotate_left
                                  · intro w'
                                    go_simp
                                    with_reducible rfl
                                  rotate_left
                                  · simp only [Act.put, List.setIfInBounds_toArray, List.set_cons_zero, List.set_cons_succ, i64_w, i32_w]
                                    rfl
                                  refine pure_ (i := 3) (N := some 54) (v := ?_) (a' := ?_) #[true, true, true, true, false, false, false, false, false, false, false, false, false, false, false, false, false, false, false, false, false, false, false, false, false, false, false, false, false, false, false, false, false, false, false, false, false, false, false, false, false, false, false, false, false, false, false, false, false, false, false, false, false, false, false, false, false, false] rfl rfl (any_of HT_.out (by kernel_rfl)) (fun _ _ _ h => h) (Or.inl ⟨by rfl, ?_⟩) ?_ ?_
                                  rotate_left
                                  · intro w'
                                    go_simp
                                    with_reducible rfl
                                  rotate_left
                                  · simp only [Act.put, List.setIfInBounds_toArray, List.set_cons_zero, List.set_cons_succ, i64_w, i32_w]
                                    rfl
                                  refine pure_ (i := 4) (N := some 55) (v := ?_) (a' := ?_) #[true, true, true, true, true, false, false, false, false, false, false, false, false, false, false, false, false, false, false, false, false, false, false, false, false, false, false, false, false, false, false, false, false, false, false, false, false, false, false, false, false, false, false, false, false, false, false, false, false, false, false, false, false, false, false, false, false, false] rfl rfl (any_of HT_.out (by kernel_rfl)) (fun _ _ _ h => h) (Or.inl ⟨by rfl, ?_⟩) ?_ ?_
                                  rotate_left
                                  · intro w'
                                    go_simp
                                    with_reducible rfl
                                  rotate_left
                                  · simp only [Act.put, List.setIfInBounds_toArray, List.set_cons_zero, List.set_cons_succ, i64_w, i32_w]
                                    rfl
                                  refine pure_ (i := 5) (N := some 56) (v := ?_) (a' := ?_) #[true, true, true, true, true, true, false, false, false, false, false, false, false, false, false, false, false, false, false, false, false, false, false, false, false, false, false, false, false, false, false, false, false, false, false, false, false, false, false, false, false, false, false, false, false, false, false, false, false, false, false, false, false, false, false, false, false, false] rfl rfl (any_of HT_.out (by kernel_rfl)) (fun _ _ _ h => h) (Or.inl ⟨by rfl, ?_⟩) ?_ ?_
                                  rotate_left
                                  · intro w'
                                    go_simp
                                    with_reducible rfl
                                  rotate_left
                                  · simp only [Act.put, List.setIfInBounds_toArray, List.set_cons_zero, List.set_cons_succ, i64_w, i32_w]
                                    rfl
                                  refine pure_ (i := 6) (N := some 57) (v := ?_) (a' := ?_) #[true, true, true, true, true, true, true, false, false, false, false, false, false, false, false, false, false, false, false, false, false, false, false, false, false, false, false, false, false, false, false, false, false, false, false, false, false, false, false, false, false, false, false, false, false, false, false, false, false, false, false, false, false, false, false, false, false, false] rfl rfl (any_of HT_.out (by kernel_rfl)) (fun _ _ _ h => h) (Or.inl ⟨by rfl, ?_⟩) ?_ ?_
                                  rotate_left
                                  · intro w'
                                    go_simp
                                    with_reducible rfl
                                  rotate_left
                                  · simp only [Act.put, List.setIfInBounds_toArray, List.set_cons_zero, List.set_cons_succ, i64_w, i32_w]
                                    rfl
                                  refine pure_ (i := 7) (N := some 58) (v := ?_) (a' := ?_) #[true, true, true, true, true, true, true, true, false, false, false, false, false, false, false, false, false, false, false, false, false, false, false, false, false, false, false, false, false, false, false, false, false, false, false, false, false, false, false, false, false, false, false, false, false, false, false, false, false, false, false, false, false, false, false, false, false, false] rfl rfl (any_of HT_.out (by kernel_rfl)) (fun _ _ _ h => h) (Or.inl ⟨by rfl, ?_⟩) ?_ ?_
                                  rotate_left
                                  · intro w'
                                    go_simp
                                    with_reducible rfl
                                  rotate_left
                                  · simp only [Act.put, List.setIfInBounds_toArray, List.set_cons_zero, List.set_cons_succ, i64_w, i32_w]
                                    rfl
                                  refine pure_ (i := 8) (N := some 59) (v := ?_) (a' := ?_) #[true, true, true, true, true, true, true, true, true, false, false, false, false, false, false, false, false, false, false, false, false, false, false, false, false, false, false, false, false, false, false, false, false, false, false, false, false, false, false, false, false, false, false, false, false, false, false, false, false, false, false, false, false, false, false, false, false, false] rfl rfl (any_of HT_.out (by kernel_rfl)) (fun _ _ _ h => h) (Or.inl ⟨by rfl, ?_⟩) ?_ ?_
                                  rotate_left
                                  · intro w'
                                    go_simp
                                    with_reducible rfl
                                  rotate_left
                                  · simp only [Act.put, List.setIfInBounds_toArray, List.set_cons_zero, List.set_cons_succ, i64_w, i32_w]
                                    rfl
                                  refine pure_ (i := 9) (N := some 60) (v := ?_) (a' := ?_) #[true, true, true, true, true, true, true, true, true, true, false, false, false, false, false, false, false, false, false, false, false, false, false, false, false, false, false, false, false, false, false, false, false, false, false, false, false, false, false, false, false, false, false, false, false, false, false, false, false, false, false, false, false, false, false, false, false, false] rfl rfl (any_of HT_.out (by kernel_rfl)) (fun _ _ _ h => h) (Or.inl ⟨by rfl, ?_⟩) ?_ ?_
                                  rotate_left
                                  · intro w'
                                    go_simp
                                    with_reducible rfl
                                  rotate_left
                                  · simp only [Act.put, List.setIfInBounds_toArray, List.set_cons_zero, List.set_cons_succ, i64_w, i32_w]
                                    rfl
                                  refine pure_ (i := 10) (N := some 61) (v := ?_) (a' := ?_) #[true, true, true, true, true, true, true, true, true, true, true, false, false, false, false, false, false, false, false, false, false, false, false, false, false, false, false, false, false, false, false, false, false, false, false, false, false, false, false, false, false, false, false, false, false, false, false, false, false, false, false, false, false, false, false, false, false, false] rfl rfl (any_of HT_.out (by kernel_rfl)) (fun _ _ _ h => h) (Or.inl ⟨by rfl, ?_⟩) ?_ ?_
                                  rotate_left
                                  · intro w'
                                    go_simp
                                    with_reducible rfl
                                  rotate_left
                                  · simp only [Act.put, List.setIfInBounds_toArray, List.set_cons_zero, List.set_cons_succ, i64_w, i32_w]
                                    rfl
                                  refine pure_ (i := 11) (N := some 62) (v := ?_) (a' := ?_) #[true, true, true, true, true, true, true, true, true, true, true, true, false, false, false, false, false, false, false, false, false, false, false, false, false, false, false, false, false, false, false, false, false, false, false, false, false, false, false, false, false, false, false, false, false, false, false, false, false, false, false, false, false, false, false, false, false, false] rfl rfl (any_of HT_.out (by kernel_rfl)) (fun _ _ _ h => h) (Or.inl ⟨by rfl, ?_⟩) ?_ ?_
                                  rotate_left
                                  · intro w'
                                    go_simp
                                    with_reducible rfl
                                  rotate_left
                                  · simp only [Act.put, List.setIfInBounds_toArray, List.set_cons_zero, List.set_cons_succ, i64_w, i32_w]
                                    rfl
                                  refine pure_ (i := 12) (N := some 63) (v := ?_) (a' := ?_) #[true, true, true, true, true, true, true, true, true, true, true, true, true, false, false, false, false, false, false, false, false, false, false, false, false, false, false, false, false, false, false, false, false, false, false, false, false, false, false, false, false, false, false, false, false, false, false, false, false, false, false, false, false, false, false, false, false, false] rfl rfl (any_of HT_.out (by kernel_rfl)) (fun _ _ _ h => h) (Or.inl ⟨by rfl, ?_⟩) ?_ ?_
                                  rotate_left
                                  · intro w'
                                    go_simp
                                    with_reducible rfl
                                  rotate_left
                                  · simp only [Act.put, List.setIfInBounds_toArray, List.set_cons_zero, List.set_cons_succ, i64_w, i32_w]
                                    rfl
                                  refine pure_ (i := 13) (N := some 64) (v := ?_) (a' := ?_) #[true, true, true, true, true, true, true, true, true, true, true, true, true, true, false, false, false, false, false, false, false, false, false, false, false, false, false, false, false, false, false, false, false, false, false, false, false, false, false, false, false, false, false, false, false, false, false, false, false, false, false, false, false, false, false, false, false, false] rfl rfl (any_of HT_.out (by kernel_rfl)) (fun _ _ _ h => h) (Or.inl ⟨by rfl, ?_⟩) ?_ ?_
                                  rotate_left
                                  · intro w'
                                    go_simp
                                    with_reducible rfl
                                  rotate_left
                                  · simp only [Act.put, List.setIfInBounds_toArray, List.set_cons_zero, List.set_cons_succ, i64_w, i32_w]
                                    rfl
                                  refine pure_ (i := 14) (N := some 65) (v := ?_) (a' := ?_) #[true, true, true, true, true, true, true, true, true, true, true, true, true, true, true, false, false, false, false, false, false, false, false, false, false, false, false, false, false, false, false, false, false, false, false, false, false, false, false, false, false, false, false, false, false, false, false, false, false, false, false, false, false, false, false, false, false, false] rfl rfl (any_of HT_.out (by kernel_rfl)) (fun _ _ _ h => h) (Or.inl ⟨by rfl, ?_⟩) ?_ ?_
                                  rotate_left
                                  · intro w'
                                    go_simp
                                    with_reducible rfl
                                  rotate_left
                                  · simp only [Act.put, List.setIfInBounds_toArray, List.set_cons_zero, List.set_cons_succ, i64_w, i32_w]
                                    rfl
                                  refine pure_ (i := 15) (N := some 66) (v := ?_) (a' := ?_) #[true, true, true, true, true, true, true, true, true, true, true, true, true, true, true, true, false, false, false, false, false, false, false, false, false, false, false, false, false, false, false, false, false, false, false, false, false, false, false, false, false, false, false, false, false, false, false, false, false, false, false, false, false, false, false, false, false, false] rfl rfl (any_of HT_.out (by kernel_rfl)) (fun _ _ _ h => h) (Or.inl ⟨by rfl, ?_⟩) ?_ ?_
                                  rotate_left
                                  · intro w'
                                    go_simp
                                    with_reducible rfl
                                  rotate_left
                                  · simp only [Act.put, List.setIfInBounds_toArray, List.set_cons_zero, List.set_cons_succ, i64_w, i32_w]
                                    rfl
                                  refine pure_ (i := 16) (N := some 67) (v := ?_) (a' := ?_) #[true, true, true, true, true, true, true, true, true, true, true, true, true, true, true, true, true, false, false, false, false, false, false, false, false, false, false, false, false, false, false, false, false, false, false, false, false, false, false, false, false, false, false, false, false, false, false, false, false, false, false, false, false, false, false, false, false, false] rfl rfl (any_of HT_.out (by kernel_rfl)) (fun _ _ _ h => h) (Or.inl ⟨by rfl, ?_⟩) ?_ ?_
                                  rotate_left
                                  · intro w'
                                    go_simp
                                    with_reducible rfl
                                  rotate_left
                                  · simp only [Act.put, List.setIfInBounds_toArray, List.set_cons_zero, List.set_cons_succ, i64_w, i32_w]
                                    rfl
                                  refine pure_ (i := 17) (N := some 68) (v := ?_) (a' := ?_) #[true, true, true, true, true, true, true, true, true, true, true, true, true, true, true, true, true, true, false, false, false, false, false, false, false, false, false, false, false, false, false, false, false, false, false, false, false, false, false, false, false, false, false, false, false, false, false, false, false, false, false, false, false, false, false, false, false, false] rfl rfl (any_of HT_.out (by kernel_rfl)) (fun _ _ _ h => h) (Or.inl ⟨by rfl, ?_⟩) ?_ ?_
                                  rotate_left
                                  · intro w'
                                    go_simp
                                    with_reducible rfl
                                  rotate_left
                                  · simp only [Act.put, List.setIfInBounds_toArray, List.set_cons_zero, List.set_cons_succ, i64_w, i32_w]
                                    rfl
                                  refine pure_ (i := 18) (N := some 69) (v := ?_) (a' := ?_) #[true, true, true, true, true, true, true, true, true, true, true, true, true, true, true, true, true, true, true, false, false, false, false, false, false, false, false, false, false, false, false, false, false, false, false, false, false, false, false, false, false, false, false, false, false, false, false, false, false, false, false, false, false, false, false, false, false, false] rfl rfl (any_of HT_.out (by kernel_rfl)) (fun _ _ _ h => h) (Or.inl ⟨by rfl, ?_⟩) ?_ ?_
                                  rotate_left
                                  · intro w'
                                    go_simp
                                    with_reducible rfl
                                  rotate_left
                                  · simp only [Act.put, List.setIfInBounds_toArray, List.set_cons_zero, List.set_cons_succ, i64_w, i32_w]
                                    rfl
                                  refine one_ (i := 19) (N := some 70) #[true, true, true, true, true, true, true, true, true, true, true, true, true, true, true, true, true, true, true, true, false, false, false, false, false, false, false, false, false, false, false, false, false, false, false, false, false, false, false, false, false, false, false, false, false, false, false, false, false, false, false, false, false, false, false, false, false, false] rfl rfl (one_of HT_.out (by kernel_rfl)) (by decide) (fun K hK => ?_)
                                  refine goes_ Try.func16 (by kernel_rfl) rfl #[.slice Ao76 y582.length co76, .slice Ao79 y586.length co79] (by rfl) rfl rfl (by (try simp only [List.map_toArray, List.map_cons, List.map_nil]); first | done | rfl | (simp only [List.length_drop, List.length_take]; rfl)) ?_
                                  with_reducible refine (phaetonref01_Same.calls kj3 _ _ y582 _ _ y586 true _ ?side1 ?side2 ?side3 ?side4 A48.out).mono ?_
                                  (case side1 => repeat (first | exact (by repeat (first | (with_reducible exact HR585.out) | (with_reducible refine Kd.C_alloc ?_ _) | (with_reducible refine Kd.C_drewN ?_ _) | (with_reducible refine Kd.C_drew ?_) | exact HR585.out)) | (with_reducible refine Kd.C_alloc ?_ _) | (with_reducible refine Kd.C_drewN ?_ _) | (with_reducible refine Kd.C_drew ?_)))
                                  (case side2 => exact HC585.out)
                                  (case side3 => repeat (first | exact (by repeat (first | (with_reducible exact HR589.out) | (with_reducible refine Kd.C_alloc ?_ _) | (with_reducible refine Kd.C_drewN ?_ _) | (with_reducible refine Kd.C_drew ?_) | exact HR589.out)) | (with_reducible refine Kd.C_alloc ?_ _) | (with_reducible refine Kd.C_drewN ?_ _) | (with_reducible refine Kd.C_drew ?_)))
                                  (case side4 => exact HC589.out)
                                  rintro e w' ⟨rfl, ⟨nd, rfl⟩⟩
                                  refine ⟨_, rfl, ?_⟩
                                  have q82 : ((ji43) : Int) ≤ ((t576.length : Int) : Int) := of_decide_eq_true (by first | (with_reducible assumption) | assumption)
                                  obtain ⟨i082, hi082, _, hsz82, _⟩ := info_parts info3
                                  have hroom82 : t576.length ≤ co76 := (Kd.R_reads' HO578.out).2.1
                                  have hC82 : Kd.C (Kd.int .i64) _ Ao76 t576.length t576 := (Kd.R_reads' HO578.out).2.2
                                  have q082 : (0 : Int) ≤ ((ji43) : Int) := of_decide_eq_true (by first | (with_reducible assumption) | assumption)
                                  have hcut82 := cut_from (P := Try.prog) 25 3 .i64 Try.underlying25 hi082 1 hsz82 Ao76 t576.length co76 (ji43) q082 q82
                                  have hr82 := Kd.C_drop (m := ((ji43) : Int).toNat) (c := co76) hC82 (by omega) hroom82
                                  obtain ⟨A82, hA82⟩ : ∃ A1, A1 = (if co76 = ((ji43) : Int).toNat then Ao76 else (Ao76 : Option Addr).map (·.add (((ji43) : Int).toNat * 1))) := ⟨_, rfl⟩
                                  obtain ⟨c82, hc82⟩ : ∃ c1, c1 = co76 - ((ji43) : Int).toNat := ⟨_, rfl⟩
                                  have hy82 : y591.length = t576.length - ((ji43) : Int).toNat := (by rw [Ny591.out, List.length_drop] <;> omega)
                                  rw [show (t576).drop ((ji43) : Int).toNat = y591 from Ny591.out.symm] at hr82
                                  replace hr82 : Kd.C (Kd.int .i64) _ A82 y591.length y591 := (by rw [hA82]; exact hr82)
                                  rw [← hy82, ← hA82, ← hc82] at hcut82
                                  have HR594 := Aside0.mk hr82
                                  have HC594 := Aside0.mk (show y591.length ≤ c82 from by rw [hy82, hc82]; exact Nat.sub_le_sub_right hroom82 _)
                                  clear hr82 hC82 hroom82 hi082 hsz82 hc82
                                  have KY82 := Aside0.mk hy82
                                  have KA82 := Aside0.mk hA82
                                  clear hy82 hA82
                                  have KL82 := Aside0.mk (show ((ji43) : Int).toNat ≤ t576.length from by omega)
                                  replace q82 := eq_true q82
                                  refine hK.out _ _ ⟨(blk_cell BK570.out 0).trans rfl, (blk_cell BK570.out 1).trans rfl, (blk_cell BK570.out 2).trans rfl, (blk_cell BK570.out 3).trans rfl, (blk_cell BK570.out 4).trans rfl, (blk_cell BK574.out 0).trans rfl, (blk_cell BK574.out 1).trans rfl, (blk_cell BK574.out 2).trans rfl, (blk_cell BK574.out 3).trans rfl, (blk_cell BK574.out 4).trans rfl⟩ (fun hHeld => ?_)
                                  clear hK K
                                  refine norm_ (a' := ?_) ?_ ?_
                                  rotate_left
                                  · show Act.put _ (some 70) _ = _
                                    simp only [Act.put, List.setIfInBounds_toArray, List.set_cons_zero, List.set_cons_succ, i64_w, i32_w]
                                    rfl
                                  refine pure_ (i := 20) (N := some 71) (v := ?_) (a' := ?_) #[true, true, true, true, true, true, true, true, true, true, true, true, true, true, true, true, true, true, true, true, true, false, false, false, false, false, false, false, false, false, false, false, false, false, false, false, false, false, false, false, false, false, false, false, false, false, false, false, false, false, false, false, false, false, false, false, false, false] rfl rfl (any_of HT_.out (by kernel_rfl)) (fun _ _ _ h => h) (Or.inl ⟨by rfl, ?_⟩) ?_ ?_
                                  rotate_left
                                  · intro w'
                                    go_simp
                                    with_reducible rfl
                                  rotate_left
                                  · simp only [Act.put, List.setIfInBounds_toArray, List.set_cons_zero, List.set_cons_succ, i64_w, i32_w]
                                    rfl
                                  refine pure_ (i := 21) (N := some 72) (v := ?_) (a' := ?_) #[true, true, true, true, true, true, true, true, true, true, true, true, true, true, true, true, true, true, true, true, true, true, false, false, false, false, false, false, false, false, false, false, false, false, false, false, false, false, false, false, false, false, false, false, false, false, false, false, false, false, false, false, false, false, false, false, false, false] rfl rfl (any_of HT_.out (by kernel_rfl)) (fun _ _ _ h => h) (Or.inl ⟨by rfl, ?_⟩) ?_ ?_
                                  rotate_left
                                  · intro w'
                                    go_simp
                                    with_reducible rfl
                                  rotate_left
                                  · simp only [Act.put, List.setIfInBounds_toArray, List.set_cons_zero, List.set_cons_succ, i64_w, i32_w]
                                    rfl
                                  refine pure_ (i := 22) (N := some 73) (v := ?_) (a' := ?_) #[true, true, true, true, true, true, true, true, true, true, true, true, true, true, true, true, true, true, true, true, true, true, true, false, false, false, false, false, false, false, false, false, false, false, false, false, false, false, false, false, false, false, false, false, false, false, false, false, false, false, false, false, false, false, false, false, false, false] rfl rfl (any_of HT_.out (by kernel_rfl)) (fun _ _ _ h => h) (Or.inl ⟨by rfl, ?_⟩) ?_ ?_
                                  rotate_left
                                  · intro w'
                                    go_simp
                                    with_reducible rfl
                                  rotate_left
                                  · simp only [Act.put, List.setIfInBounds_toArray, List.set_cons_zero, List.set_cons_succ, i64_w, i32_w]
                                    rfl
                                  refine pure_ (i := 23) (N := some 74) (v := ?_) (a' := ?_) #[true, true, true, true, true, true, true, true, true, true, true, true, true, true, true, true, true, true, true, true, true, true, true, true, false, false, false, false, false, false, false, false, false, false, false, false, false, false, false, false, false, false, false, false, false, false, false, false, false, false, false, false, false, false, false, false, false, false] rfl rfl (any_of HT_.out (by kernel_rfl)) (fun _ _ _ h => h) (Or.inl ⟨by rfl, ?_⟩) ?_ ?_
                                  rotate_left
                                  · intro w'
                                    go_simp
                                    with_reducible rfl
                                  rotate_left
                                  · simp only [Act.put, List.setIfInBounds_toArray, List.set_cons_zero, List.set_cons_succ, i64_w, i32_w]
                                    rfl
                                  refine pure_ (i := 24) (N := some 75) (v := ?_) (a' := ?_) #[true, true, true, true, true, true, true, true, true, true, true, true, true, true, true, true, true, true, true, true, true, true, true, true, true, false, false, false, false, false, false, false, false, false, false, false, false, false, false, false, false, false, false, false, false, false, false, false, false, false, false, false, false, false, false, false, false, false] rfl rfl (any_of HT_.out (by kernel_rfl)) (fun _ _ _ h => h) (Or.inl ⟨by rfl, ?_⟩) ?_ ?_
                                  rotate_left
                                  · intro w'
                                    go_simp
                                    with_reducible rfl
                                  rotate_left
                                  · simp only [Act.put, List.setIfInBounds_toArray, List.set_cons_zero, List.set_cons_succ, i64_w, i32_w]
                                    rfl
                                  refine pure_ (i := 25) (N := some 76) (v := ?_) (a' := ?_) #[true, true, true, true, true, true, true, true, true, true, true, true, true, true, true, true, true, true, true, true, true, true, true, true, true, true, false, false, false, false, false, false, false, false, false, false, false, false, false, false, false, false, false, false, false, false, false, false, false, false, false, false, false, false, false, false, false, false] rfl rfl (any_of HT_.out (by kernel_rfl)) (fun _ _ _ h => h) (Or.inl ⟨by rfl, ?_⟩) ?_ ?_
                                  rotate_left
                                  · intro w'
                                    go_simp
                                    with_reducible rfl
                                  rotate_left
                                  · simp only [Act.put, List.setIfInBounds_toArray, List.set_cons_zero, List.set_cons_succ, i64_w, i32_w]
                                    rfl
                                  refine take_ (i := 26) (N := some 77) (v := ?_) (a' := ?_) #[true, true, true, true, true, true, true, true, true, true, true, true, true, true, true, true, true, true, true, true, true, true, true, true, true, true, true, false, false, false, false, false, false, false, false, false, false, false, false, false, false, false, false, false, false, false, false, false, false, false, false, false, false, false, false, false, false, false] rfl rfl (take_ofW HT_.out HW_.out (by kernel_rfl)) (fun _ _ _ h => h) (Or.inl ⟨by rfl, ?_⟩) hHeld ?_ ?_
                                  rotate_left
                                  · rintro w' ⟨s0, s1, s2, s3, s4, s5, s6, s7, s8, s9⟩
                                    go_simp
                                    with_reducible rfl
                                  rotate_left
                                  · simp only [Act.put, List.setIfInBounds_toArray, List.set_cons_zero, List.set_cons_succ, i64_w, i32_w]
                                    rfl
                                  refine one_ (i := 27) (N := some 78) #[true, true, true, true, true, true, true, true, true, true, true, true, true, true, true, true, true, true, true, true, true, true, true, true, true, true, true, true, false, false, false, false, false, false, false, false, false, false, false, false, false, false, false, false, false, false, false, false, false, false, false, false, false, false, false, false, false, false] rfl rfl (one_of HT_.out (by kernel_rfl)) (by decide) (fun K hK => ?_)
                                  refine goes_ Try.func24 (by kernel_rfl) rfl #[.slice A0_4 l0_4.length c0_4] (by rfl) rfl rfl (by (try simp only [List.map_toArray, List.map_cons, List.map_nil]); first | done | rfl | (simp only [List.length_drop, List.length_take]; rfl)) ?_
                                  with_reducible refine (phaetonref01_Spread.calls kj3 _ _ l0_4 t595 _ ?side1 ?side2 A52.out).mono ?_
                                  (case side1 => repeat (first | exact (Kd.C_below HR0_4.out (by repeat (first | (with_reducible first | exact HB.out | apply below_alloc | apply pw_below_drewN | apply below_drew1 | refine below_set ?_ GE570.out | refine below_set ?_ GE574.out) | exact HB.out))) | (with_reducible refine Kd.C_alloc ?_ _) | (with_reducible refine Kd.C_drewN ?_ _) | (with_reducible refine Kd.C_drew ?_)))
                                  (case side2 => exact HC0_4.out)
                                  rintro e w83 ⟨v596, rfl, ho0, hb⟩
                                  refine ⟨_, rfl, ?_⟩
                                  have n0_ := Aside0.mk (Kd.R_elder' (by (with_reducible repeat (first | apply Kd.R_alloc | apply Kd.R_drewN | apply Kd.R_drew)); exact HO578.out) (Kd.R_base ho0) hb)
                                  have n1_ := Aside0.mk (Kd.R_elder' (by (with_reducible repeat (first | apply Kd.R_alloc | apply Kd.R_drewN | apply Kd.R_drew)); exact HO581.out) (Kd.R_base ho0) hb)
                                  have n2_ := Aside0.mk (Kd.R_lower (Kd.R_new' (Kd.R_new' ho0 (Kd.R_lt (by (with_reducible repeat (first | apply Kd.R_alloc | apply Kd.R_drewN | apply Kd.R_drew)); exact HO578.out))) (Kd.R_lt (by (with_reducible repeat (first | apply Kd.R_alloc | apply Kd.R_drewN | apply Kd.R_drew)); exact HO581.out))) (below_size (by repeat (first | (with_reducible first | exact HB.out | apply below_alloc | apply pw_below_drewN | apply below_drew1 | refine below_set ?_ GE570.out | refine below_set ?_ GE574.out) | exact HB.out))))
                                  have n3_ := Aside0.mk (blk_below (g := gb570) (o := .cells #[.bool a0_0, .int .i64 a0_1, .bool a0_2, .int .i64 a0_3, .slice A0_4 l0_4.length c0_4] 24 (0, 0)) (by (with_reducible repeat (first | refine blk_drewN ?_ _ | refine blk_drew ?_ | refine blk_alloc ?_ _)); exact BK570.out) hb)
                                  have n4_ := Aside0.mk (blk_below (g := gb574) (o := .cells #[.bool a0_0, .int .i64 a0_1, .bool a0_2, .int .i64 a0_3, .slice A1 (l1.take (a0_3 : Int).toNat).length c1] 24 (0, 0)) (by (with_reducible repeat (first | refine blk_drewN ?_ _ | refine blk_drew ?_ | refine blk_alloc ?_ _)); exact BK574.out) hb)
                                  have n5_ := Aside0.mk (HW.C_carry HR585.out hb (by repeat (first | (with_reducible exact HR585.out) | (with_reducible refine Kd.C_alloc ?_ _) | (with_reducible refine Kd.C_drewN ?_ _) | (with_reducible refine Kd.C_drew ?_) | exact HR585.out)))
                                  have n6_ := Aside0.mk (HW.C_carry HR589.out hb (by repeat (first | (with_reducible exact HR589.out) | (with_reducible refine Kd.C_alloc ?_ _) | (with_reducible refine Kd.C_drewN ?_ _) | (with_reducible refine Kd.C_drew ?_) | exact HR589.out)))
                                  have n7_ := Aside0.mk (HW.C_carry HR594.out hb (by repeat (first | (with_reducible exact HR594.out) | (with_reducible refine Kd.C_alloc ?_ _) | (with_reducible refine Kd.C_drewN ?_ _) | (with_reducible refine Kd.C_drew ?_) | exact HR594.out)))
                                  have n8_ := Aside0.mk (below_step (by repeat (first | (with_reducible first | exact HB.out | apply below_alloc | apply pw_below_drewN | apply below_drew1 | refine below_set ?_ GE570.out | refine below_set ?_ GE574.out) | exact HB.out)) hb)
                                  clear HO578
                                  clear HO581
                                  clear BK570
                                  clear BK574
                                  clear HR585
                                  clear HR589
                                  clear HR594
                                  clear HB
                                  have HO578 := n0_
                                  have HO581 := n1_
                                  have HO597 := n2_
                                  have BK570 := n3_
                                  have BK574 := n4_
                                  have HR585 := n5_
                                  have HR589 := n6_
                                  have HR594 := n7_
                                  have HB := n8_
                                  clear n0_ n1_ n2_ n3_ n4_ n5_ n6_ n7_ n8_
                                  (try clear hb)
                                  (try clear hb2)
                                  (try clear hk)
                                  (try clear hi)
                                  (try clear ho0)
                                  obtain ⟨Ao84, co84, eo84⟩ := Kd.R_slice HO597.out
                                  (first | subst eo84 | (injection eo84 with f1_ f2_ f3_; have f4_ := f1_.symm; have f5_ := f3_.symm; clear f1_ f2_ f3_; subst f4_; subst f5_))
                                  refine hK.out _ _ ⟨(blk_cell BK570.out 0).trans rfl, (blk_cell BK570.out 1).trans rfl, (blk_cell BK570.out 2).trans rfl, (blk_cell BK570.out 3).trans rfl, (blk_cell BK570.out 4).trans rfl, (blk_cell BK574.out 0).trans rfl, (blk_cell BK574.out 1).trans rfl, (blk_cell BK574.out 2).trans rfl, (blk_cell BK574.out 3).trans rfl, (blk_cell BK574.out 4).trans rfl⟩ (fun hHeld => ?_)
                                  clear hK K
                                  refine norm_ (a' := ?_) ?_ ?_
                                  rotate_left
                                  · show Act.put _ (some 78) _ = _
                                    simp only [Act.put, List.setIfInBounds_toArray, List.set_cons_zero, List.set_cons_succ, i64_w, i32_w]
                                    rfl
                                  refine one_ (i := 28) (N := some 79) #[true, true, true, true, true, true, true, true, true, true, true, true, true, true, true, true, true, true, true, true, true, true, true, true, true, true, true, true, true, false, false, false, false, false, false, false, false, false, false, false, false, false, false, false, false, false, false, false, false, false, false, false, false, false, false, false, false, false] rfl rfl (one_of HT_.out (by kernel_rfl)) (by decide) (fun K hK => ?_)
                                  refine goes_ Try.func16 (by kernel_rfl) rfl #[.slice A82 y591.length c82, .slice Ao84 t595.length co84] (by rfl) rfl rfl (by (try simp only [List.map_toArray, List.map_cons, List.map_nil]); first | done | rfl | (simp only [List.length_drop, List.length_take]; rfl)) ?_
                                  with_reducible refine (phaetonref01_Same.calls kj3 _ _ y591 _ _ t595 true _ ?side1 ?side2 ?side3 ?side4 A53.out).mono ?_
                                  (case side1 => repeat (first | exact (by repeat (first | (with_reducible exact HR594.out) | (with_reducible refine Kd.C_alloc ?_ _) | (with_reducible refine Kd.C_drewN ?_ _) | (with_reducible refine Kd.C_drew ?_) | exact HR594.out)) | (with_reducible refine Kd.C_alloc ?_ _) | (with_reducible refine Kd.C_drewN ?_ _) | (with_reducible refine Kd.C_drew ?_)))
                                  (case side2 => exact HC594.out)
                                  (case side3 => repeat (first | exact (Kd.R_reads' HO597.out).2.2 | (with_reducible refine Kd.C_alloc ?_ _) | (with_reducible refine Kd.C_drewN ?_ _) | (with_reducible refine Kd.C_drew ?_)))
                                  (case side4 => exact (Kd.R_reads' HO597.out).2.1)
                                  rintro e w' ⟨rfl, ⟨nd, rfl⟩⟩
                                  refine ⟨_, rfl, ?_⟩
                                  have q85 : ((ji43) : Int) ≤ ((t579.length : Int) : Int) := of_decide_eq_true (by first | (with_reducible assumption) | assumption)
                                  obtain ⟨i085, hi085, _, hsz85, _⟩ := info_parts info3
                                  have hroom85 : t579.length ≤ co79 := (Kd.R_reads' HO581.out).2.1
                                  have hC85 : Kd.C (Kd.int .i64) _ Ao79 t579.length t579 := (Kd.R_reads' HO581.out).2.2
                                  have q085 : (0 : Int) ≤ ((ji43) : Int) := of_decide_eq_true (by first | (with_reducible assumption) | assumption)
                                  have hcut85 := cut_from (P := Try.prog) 25 3 .i64 Try.underlying25 hi085 1 hsz85 Ao79 t579.length co79 (ji43) q085 q85
                                  have hr85 := Kd.C_drop (m := ((ji43) : Int).toNat) (c := co79) hC85 (by omega) hroom85
                                  obtain ⟨A85, hA85⟩ : ∃ A1, A1 = (if co79 = ((ji43) : Int).toNat then Ao79 else (Ao79 : Option Addr).map (·.add (((ji43) : Int).toNat * 1))) := ⟨_, rfl⟩
                                  obtain ⟨c85, hc85⟩ : ∃ c1, c1 = co79 - ((ji43) : Int).toNat := ⟨_, rfl⟩
                                  have hy85 : y599.length = t579.length - ((ji43) : Int).toNat := (by rw [Ny599.out, List.length_drop] <;> omega)
                                  rw [show (t579).drop ((ji43) : Int).toNat = y599 from Ny599.out.symm] at hr85
                                  replace hr85 : Kd.C (Kd.int .i64) _ A85 y599.length y599 := (by rw [hA85]; exact hr85)
                                  rw [← hy85, ← hA85, ← hc85] at hcut85
                                  have HR602 := Aside0.mk hr85
                                  have HC602 := Aside0.mk (show y599.length ≤ c85 from by rw [hy85, hc85]; exact Nat.sub_le_sub_right hroom85 _)
                                  clear hr85 hC85 hroom85 hi085 hsz85 hc85
                                  have KY85 := Aside0.mk hy85
                                  have KA85 := Aside0.mk hA85
                                  clear hy85 hA85
                                  have KL85 := Aside0.mk (show ((ji43) : Int).toNat ≤ t579.length from by omega)
                                  replace q85 := eq_true q85
                                  refine hK.out _ _ ⟨(blk_cell BK570.out 0).trans rfl, (blk_cell BK570.out 1).trans rfl, (blk_cell BK570.out 2).trans rfl, (blk_cell BK570.out 3).trans rfl, (blk_cell BK570.out 4).trans rfl, (blk_cell BK574.out 0).trans rfl, (blk_cell BK574.out 1).trans rfl, (blk_cell BK574.out 2).trans rfl, (blk_cell BK574.out 3).trans rfl, (blk_cell BK574.out 4).trans rfl⟩ (fun hHeld => ?_)
                                  clear hK K
                                  refine norm_ (a' := ?_) ?_ ?_
                                  rotate_left
                                  · show Act.put _ (some 79) _ = _
                                    simp only [Act.put, List.setIfInBounds_toArray, List.set_cons_zero, List.set_cons_succ, i64_w, i32_w]
                                    rfl
                                  refine pure_ (i := 29) (N := some 80) (v := ?_) (a' := ?_) #[true, true, true, true, true, true, true, true, true, true, true, true, true, true, true, true, true, true, true, true, true, true, true, true, true, true, true, true, true, true, false, false, false, false, false, false, false, false, false, false, false, false, false, false, false, false, false, false, false, false, false, false, false, false, false, false, false, false] rfl rfl (any_of HT_.out (by kernel_rfl)) (fun _ _ _ h => h) (Or.inl ⟨by rfl, ?_⟩) ?_ ?_
                                  rotate_left
                                  · intro w'
                                    go_simp
                                    with_reducible rfl
                                  rotate_left
                                  · simp only [Act.put, List.setIfInBounds_toArray, List.set_cons_zero, List.set_cons_succ, i64_w, i32_w]
                                    rfl
                                  refine pure_ (i := 30) (N := some 81) (v := ?_) (a' := ?_) #[true, true, true, true, true, true, true, true, true, true, true, true, true, true, true, true, true, true, true, true, true, true, true, true, true, true, true, true, true, true, true, false, false, false, false, false, false, false, false, false, false, false, false, false, false, false, false, false, false, false, false, false, false, false, false, false, false, false] rfl rfl (any_of HT_.out (by kernel_rfl)) (fun _ _ _ h => h) (Or.inl ⟨by rfl, ?_⟩) ?_ ?_
                                  rotate_left
                                  · intro w'
                                    go_simp
                                    with_reducible rfl
                                  rotate_left
                                  · simp only [Act.put, List.setIfInBounds_toArray, List.set_cons_zero, List.set_cons_succ, i64_w, i32_w]
                                    rfl
                                  refine pure_ (i := 31) (N := some 82) (v := ?_) (a' := ?_) #[true, true, true, true, true, true, true, true, true, true, true, true, true, true, true, true, true, true, true, true, true, true, true, true, true, true, true, true, true, true, true, true, false, false, false, false, false, false, false, false, false, false, false, false, false, false, false, false, false, false, false, false, false, false, false, false, false, false] rfl rfl (any_of HT_.out (by kernel_rfl)) (fun _ _ _ h => h) (Or.inl ⟨by rfl, ?_⟩) ?_ ?_
                                  rotate_left
                                  · intro w'
                                    go_simp
                                    with_reducible rfl
                                  rotate_left
                                  · simp only [Act.put, List.setIfInBounds_toArray, List.set_cons_zero, List.set_cons_succ, i64_w, i32_w]
                                    rfl
                                  refine pure_ (i := 32) (N := some 83) (v := ?_) (a' := ?_) #[true, true, true, true, true, true, true, true, true, true, true, true, true, true, true, true, true, true, true, true, true, true, true, true, true, true, true, true, true, true, true, true, true, false, false, false, false, false, false, false, false, false, false, false, false, false, false, false, false, false, false, false, false, false, false, false, false, false] rfl rfl (any_of HT_.out (by kernel_rfl)) (fun _ _ _ h => h) (Or.inl ⟨by rfl, ?_⟩) ?_ ?_
                                  rotate_left
                                  · intro w'
                                    go_simp
                                    with_reducible rfl
                                  rotate_left
                                  · simp only [Act.put, List.setIfInBounds_toArray, List.set_cons_zero, List.set_cons_succ, i64_w, i32_w]
                                    rfl
                                  refine pure_ (i := 33) (N := some 84) (v := ?_) (a' := ?_) #[true, true, true, true, true, true, true, true, true, true, true, true, true, true, true, true, true, true, true, true, true, true, true, true, true, true, true, true, true, true, true, true, true, true, false, false, false, false, false, false, false, false, false, false, false, false, false, false, false, false, false, false, false, false, false, false, false, false] rfl rfl (any_of HT_.out (by kernel_rfl)) (fun _ _ _ h => h) (Or.inl ⟨by rfl, ?_⟩) ?_ ?_
                                  rotate_left
                                  · intro w'
                                    go_simp
                                    with_reducible rfl
                                  rotate_left
                                  · simp only [Act.put, List.setIfInBounds_toArray, List.set_cons_zero, List.set_cons_succ, i64_w, i32_w]
                                    rfl
                                  refine pure_ (i := 34) (N := some 85) (v := ?_) (a' := ?_) #[true, true, true, true, true, true, true, true, true, true, true, true, true, true, true, true, true, true, true, true, true, true, true, true, true, true, true, true, true, true, true, true, true, true, true, false, false, false, false, false, false, false, false, false, false, false, false, false, false, false, false, false, false, false, false, false, false, false] rfl rfl (any_of HT_.out (by kernel_rfl)) (fun _ _ _ h => h) (Or.inl ⟨by rfl, ?_⟩) ?_ ?_
                                  rotate_left
                                  · intro w'
                                    go_simp
                                    with_reducible rfl
                                  rotate_left
                                  · simp only [Act.put, List.setIfInBounds_toArray, List.set_cons_zero, List.set_cons_succ, i64_w, i32_w]
                                    rfl
                                  refine take_ (i := 35) (N := some 86) (v := ?_) (a' := ?_) #[true, true, true, true, true, true, true, true, true, true, true, true, true, true, true, true, true, true, true, true, true, true, true, true, true, true, true, true, true, true, true, true, true, true, true, true, false, false, false, false, false, false, false, false, false, false, false, false, false, false, false, false, false, false, false, false, false, false] rfl rfl (take_ofW HT_.out HW_.out (by kernel_rfl)) (fun _ _ _ h => h) (Or.inl ⟨by rfl, ?_⟩) hHeld ?_ ?_
                                  rotate_left
                                  · rintro w' ⟨s0, s1, s2, s3, s4, s5, s6, s7, s8, s9⟩
                                    go_simp
                                    with_reducible rfl
                                  rotate_left
                                  · simp only [Act.put, List.setIfInBounds_toArray, List.set_cons_zero, List.set_cons_succ, i64_w, i32_w]
                                    rfl
                                  refine one_ (i := 36) (N := some 87) #[true, true, true, true, true, true, true, true, true, true, true, true, true, true, true, true, true, true, true, true, true, true, true, true, true, true, true, true, true, true, true, true, true, true, true, true, true, false, false, false, false, false, false, false, false, false, false, false, false, false, false, false, false, false, false, false, false, false] rfl rfl (one_of HT_.out (by kernel_rfl)) (by decide) (fun K hK => ?_)
                                  refine goes_ Try.func24 (by kernel_rfl) rfl #[.slice A1 (l1.take (a0_3 : Int).toNat).length c1] (by rfl) rfl rfl (by (try simp only [List.map_toArray, List.map_cons, List.map_nil]); first | done | (rw [show (l1.take (a0_3 : Int).toNat).length = a0_3.toNat from (by rw [List.length_take]; have h_ : (a0_3 : Int) ≤ (l1.length : Int) := of_decide_eq_true (by first | (with_reducible assumption) | assumption); omega)] <;> rfl) | rfl | (simp only [List.length_drop, List.length_take]; rfl)) ?_
                                  with_reducible refine (phaetonref01_Spread.calls kj3 _ _ (l1.take (a0_3 : Int).toNat) t603 _ ?side1 ?side2 A57.out).mono ?_
                                  (case side1 => repeat (first | exact (Kd.C_below HR575.out (by repeat (first | (with_reducible first | exact HB.out | apply below_alloc | apply pw_below_drewN | apply below_drew1 | refine below_set ?_ GE570.out | refine below_set ?_ GE574.out) | exact HB.out))) | (with_reducible refine Kd.C_alloc ?_ _) | (with_reducible refine Kd.C_drewN ?_ _) | (with_reducible refine Kd.C_drew ?_)))
                                  (case side2 => exact HC575.out)
                                  rintro e w86 ⟨v604, rfl, ho0, hb⟩
                                  refine ⟨_, rfl, ?_⟩
                                  have n0_ := Aside0.mk (Kd.R_elder' (by (with_reducible repeat (first | apply Kd.R_alloc | apply Kd.R_drewN | apply Kd.R_drew)); exact HO578.out) (Kd.R_base ho0) hb)
                                  have n1_ := Aside0.mk (Kd.R_elder' (by (with_reducible repeat (first | apply Kd.R_alloc | apply Kd.R_drewN | apply Kd.R_drew)); exact HO581.out) (Kd.R_base ho0) hb)
                                  have n2_ := Aside0.mk (Kd.R_elder' (by (with_reducible repeat (first | apply Kd.R_alloc | apply Kd.R_drewN | apply Kd.R_drew)); exact HO597.out) (Kd.R_base ho0) hb)
                                  have n3_ := Aside0.mk (Kd.R_lower (Kd.R_new' (Kd.R_new' (Kd.R_new' ho0 (Kd.R_lt (by (with_reducible repeat (first | apply Kd.R_alloc | apply Kd.R_drewN | apply Kd.R_drew)); exact HO578.out))) (Kd.R_lt (by (with_reducible repeat (first | apply Kd.R_alloc | apply Kd.R_drewN | apply Kd.R_drew)); exact HO581.out))) (Kd.R_lt (by (with_reducible repeat (first | apply Kd.R_alloc | apply Kd.R_drewN | apply Kd.R_drew)); exact HO597.out))) (below_size (by repeat (first | (with_reducible first | exact HB.out | apply below_alloc | apply pw_below_drewN | apply below_drew1 | refine below_set ?_ GE570.out | refine below_set ?_ GE574.out) | exact HB.out))))
                                  have n4_ := Aside0.mk (blk_below (g := gb570) (o := .cells #[.bool a0_0, .int .i64 a0_1, .bool a0_2, .int .i64 a0_3, .slice A0_4 l0_4.length c0_4] 24 (0, 0)) (by (with_reducible repeat (first | refine blk_drewN ?_ _ | refine blk_drew ?_ | refine blk_alloc ?_ _)); exact BK570.out) hb)
                                  have n5_ := Aside0.mk (blk_below (g := gb574) (o := .cells #[.bool a0_0, .int .i64 a0_1, .bool a0_2, .int .i64 a0_3, .slice A1 (l1.take (a0_3 : Int).toNat).length c1] 24 (0, 0)) (by (with_reducible repeat (first | refine blk_drewN ?_ _ | refine blk_drew ?_ | refine blk_alloc ?_ _)); exact BK574.out) hb)
                                  have n6_ := Aside0.mk (HW.C_carry HR585.out hb (by repeat (first | (with_reducible exact HR585.out) | (with_reducible refine Kd.C_alloc ?_ _) | (with_reducible refine Kd.C_drewN ?_ _) | (with_reducible refine Kd.C_drew ?_) | exact HR585.out)))
                                  have n7_ := Aside0.mk (HW.C_carry HR589.out hb (by repeat (first | (with_reducible exact HR589.out) | (with_reducible refine Kd.C_alloc ?_ _) | (with_reducible refine Kd.C_drewN ?_ _) | (with_reducible refine Kd.C_drew ?_) | exact HR589.out)))
                                  have n8_ := Aside0.mk (HW.C_carry HR594.out hb (by repeat (first | (with_reducible exact HR594.out) | (with_reducible refine Kd.C_alloc ?_ _) | (with_reducible refine Kd.C_drewN ?_ _) | (with_reducible refine Kd.C_drew ?_) | exact HR594.out)))
                                  have n9_ := Aside0.mk (HW.C_carry HR602.out hb (by repeat (first | (with_reducible exact HR602.out) | (with_reducible refine Kd.C_alloc ?_ _) | (with_reducible refine Kd.C_drewN ?_ _) | (with_reducible refine Kd.C_drew ?_) | exact HR602.out)))
                                  have n10_ := Aside0.mk (below_step (by repeat (first | (with_reducible first | exact HB.out | apply below_alloc | apply pw_below_drewN | apply below_drew1 | refine below_set ?_ GE570.out | refine below_set ?_ GE574.out) | exact HB.out)) hb)
                                  clear HO578
                                  clear HO581
                                  clear HO597
                                  clear BK570
                                  clear BK574
                                  clear HR585
                                  clear HR589
                                  clear HR594
                                  clear HR602
                                  clear HB
                                  have HO578 := n0_
                                  have HO581 := n1_
                                  have HO597 := n2_
                                  have HO605 := n3_
                                  have BK570 := n4_
                                  have BK574 := n5_
                                  have HR585 := n6_
                                  have HR589 := n7_
                                  have HR594 := n8_
                                  have HR602 := n9_
                                  have HB := n10_
                                  clear n0_ n1_ n2_ n3_ n4_ n5_ n6_ n7_ n8_ n9_ n10_
                                  (try clear hb)
                                  (try clear hb2)
                                  (try clear hk)
                                  (try clear hi)
                                  (try clear ho0)
                                  obtain ⟨Ao87, co87, eo87⟩ := Kd.R_slice HO605.out
                                  (first | subst eo87 | (injection eo87 with f1_ f2_ f3_; have f4_ := f1_.symm; have f5_ := f3_.symm; clear f1_ f2_ f3_; subst f4_; subst f5_))
                                  refine hK.out _ _ ⟨(blk_cell BK570.out 0).trans rfl, (blk_cell BK570.out 1).trans rfl, (blk_cell BK570.out 2).trans rfl, (blk_cell BK570.out 3).trans rfl, (blk_cell BK570.out 4).trans rfl, (blk_cell BK574.out 0).trans rfl, (blk_cell BK574.out 1).trans rfl, (blk_cell BK574.out 2).trans rfl, (blk_cell BK574.out 3).trans rfl, (blk_cell BK574.out 4).trans rfl⟩ (fun hHeld => ?_)
                                  clear hK K
                                  refine norm_ (a' := ?_) ?_ ?_
                                  rotate_left
                                  · show Act.put _ (some 87) _ = _
                                    simp only [Act.put, List.setIfInBounds_toArray, List.set_cons_zero, List.set_cons_succ, i64_w, i32_w]
                                    rfl
                                  refine one_ (i := 37) (N := some 88) #[true, true, true, true, true, true, true, true, true, true, true, true, true, true, true, true, true, true, true, true, true, true, true, true, true, true, true, true, true, true, true, true, true, true, true, true, true, true, false, false, false, false, false, false, false, false, false, false, false, false, false, false, false, false, false, false, false, false] rfl rfl (one_of HT_.out (by kernel_rfl)) (by decide) (fun K hK => ?_)
                                  refine goes_ Try.func16 (by kernel_rfl) rfl #[.slice A85 y599.length c85, .slice Ao87 t603.length co87] (by rfl) rfl rfl (by (try simp only [List.map_toArray, List.map_cons, List.map_nil]); first | done | rfl | (simp only [List.length_drop, List.length_take]; rfl)) ?_
                                  with_reducible refine (phaetonref01_Same.calls kj3 _ _ y599 _ _ t603 true _ ?side1 ?side2 ?side3 ?side4 A58.out).mono ?_
                                  (case side1 => repeat (first | exact (by repeat (first | (with_reducible exact HR602.out) | (with_reducible refine Kd.C_alloc ?_ _) | (with_reducible refine Kd.C_drewN ?_ _) | (with_reducible refine Kd.C_drew ?_) | exact HR602.out)) | (with_reducible refine Kd.C_alloc ?_ _) | (with_reducible refine Kd.C_drewN ?_ _) | (with_reducible refine Kd.C_drew ?_)))
                                  (case side2 => exact HC602.out)
                                  (case side3 => repeat (first | exact (Kd.R_reads' HO605.out).2.2 | (with_reducible refine Kd.C_alloc ?_ _) | (with_reducible refine Kd.C_drewN ?_ _) | (with_reducible refine Kd.C_drew ?_)))
                                  (case side4 => exact (Kd.R_reads' HO605.out).2.1)
                                  rintro e w' ⟨rfl, ⟨nd, rfl⟩⟩
                                  refine ⟨_, rfl, ?_⟩
                                  refine hK.out _ _ ⟨(blk_cell BK570.out 0).trans rfl, (blk_cell BK570.out 1).trans rfl, (blk_cell BK570.out 2).trans rfl, (blk_cell BK570.out 3).trans rfl, (blk_cell BK570.out 4).trans rfl, (blk_cell BK574.out 0).trans rfl, (blk_cell BK574.out 1).trans rfl, (blk_cell BK574.out 2).trans rfl, (blk_cell BK574.out 3).trans rfl, (blk_cell BK574.out 4).trans rfl⟩ (fun hHeld => ?_)
                                  clear hK K
                                  refine norm_ (a' := ?_) ?_ ?_
                                  rotate_left
                                  · show Act.put _ (some 88) _ = _
                                    simp only [Act.put, List.setIfInBounds_toArray, List.set_cons_zero, List.set_cons_succ, i64_w, i32_w]
                                    rfl
                                  refine pure_ (i := 38) (N := some 89) (v := ?_) (a' := ?_) #[true, true, true, true, true, true, true, true, true, true, true, true, true, true, true, true, true, true, true, true, true, true, true, true, true, true, true, true, true, true, true, true, true, true, true, true, true, true, true, false, false, false, false, false, false, false, false, false, false, false, false, false, false, false, false, false, false, false] rfl rfl (any_of HT_.out (by kernel_rfl)) (fun _ _ _ h => h) (Or.inl ⟨by rfl, ?_⟩) ?_ ?_
                                  rotate_left
                                  · intro w'
                                    go_simp
                                    with_reducible rfl
                                  rotate_left
                                  · simp only [Act.put, List.setIfInBounds_toArray, List.set_cons_zero, List.set_cons_succ, i64_w, i32_w]
                                    rfl
                                  refine pure_ (i := 39) (N := some 90) (v := ?_) (a' := ?_) #[true, true, true, true, true, true, true, true, true, true, true, true, true, true, true, true, true, true, true, true, true, true, true, true, true, true, true, true, true, true, true, true, true, true, true, true, true, true, true, true, false, false, false, false, false, false, false, false, false, false, false, false, false, false, false, false, false, false] rfl rfl (any_of HT_.out (by kernel_rfl)) (fun _ _ _ h => h) (Or.inl ⟨by rfl, ?_⟩) ?_ ?_
                                  rotate_left
                                  · intro w'
                                    go_simp
                                    with_reducible rfl
                                  rotate_left
                                  · simp only [Act.put, List.setIfInBounds_toArray, List.set_cons_zero, List.set_cons_succ, i64_w, i32_w]
                                    rfl
                                  refine take_ (i := 40) (N := some 91) (v := ?_) (a' := ?_) #[true, true, true, true, true, true, true, true, true, true, true, true, true, true, true, true, true, true, true, true, true, true, true, true, true, true, true, true, true, true, true, true, true, true, true, true, true, true, true, true, true, false, false, false, false, false, false, false, false, false, false, false, false, false, false, false, false, false] rfl rfl (take_ofW HT_.out HW_.out (by kernel_rfl)) (fun _ _ _ h => h) (Or.inl ⟨by rfl, ?_⟩) hHeld ?_ ?_
                                  rotate_left
                                  · rintro w' ⟨s0, s1, s2, s3, s4, s5, s6, s7, s8, s9⟩
                                    go_simp
                                    with_reducible rfl
                                  rotate_left
                                  · simp only [Act.put, List.setIfInBounds_toArray, List.set_cons_zero, List.set_cons_succ, i64_w, i32_w]
                                    rfl
                                  refine take_ (i := 42) (N := some 93) (v := ?_) (a' := ?_) #[true, true, true, true, true, true, true, true, true, true, true, true, true, true, true, true, true, true, true, true, true, true, true, true, true, true, true, true, true, true, true, true, true, true, true, true, true, true, true, true, true, false, true, false, false, false, false, false, false, false, false, false, false, false, false, false, false, false] rfl rfl (take_ofW HT_.out HW_.out (by kernel_rfl)) (fun _ _ _ h => h) (Or.inl ⟨by rfl, ?_⟩) hHeld ?_ ?_
                                  rotate_left
                                  · rintro w' ⟨s0, s1, s2, s3, s4, s5, s6, s7, s8, s9⟩
                                    go_simp
                                    with_reducible rfl
                                  rotate_left
                                  · simp only [Act.put, List.setIfInBounds_toArray, List.set_cons_zero, List.set_cons_succ, i64_w, i32_w]
                                    rfl
                                  refine one_ (i := 41) (N := some 92) #[true, true, true, true, true, true, true, true, true, true, true, true, true, true, true, true, true, true, true, true, true, true, true, true, true, true, true, true, true, true, true, true, true, true, true, true, true, true, true, true, true, true, true, false, false, false, false, false, false, false, false, false, false, false, false, false, false, false] rfl rfl (one_of HT_.out (by kernel_rfl)) (by decide) (fun K hK => ?_)
                                  refine goes_ Try.func19 (by kernel_rfl) rfl #[.agg #[.bool a0_0, .int .i64 a0_1, .bool a0_2, .int .i64 a0_3, .slice A0_4 l0_4.length c0_4]] (by rfl) rfl rfl (by (try simp only [List.map_toArray, List.map_cons, List.map_nil]); first | done | rfl | (simp only [List.length_drop, List.length_take]; rfl)) ?_
                                  with_reducible refine (frame_Rank.calls a0_0 a0_1 a0_2 a0_3 _ _ l0_4 t607 _ ?side1 ?side2 A60.out).mono ?_
                                  (case side1 => repeat (first | exact (Kd.C_below HR0_4.out (by repeat (first | (with_reducible first | exact HB.out | apply below_alloc | apply pw_below_drewN | apply below_drew1 | refine below_set ?_ GE570.out | refine below_set ?_ GE574.out) | exact HB.out))) | (with_reducible refine Kd.C_alloc ?_ _) | (with_reducible refine Kd.C_drewN ?_ _) | (with_reducible refine Kd.C_drew ?_)))
                                  (case side2 => exact HC0_4.out)
                                  rintro e w88 ⟨v608, rfl, ho0, hb⟩
                                  refine ⟨_, rfl, ?_⟩
                                  have n0_ := Aside0.mk (Kd.R_elder' (by (with_reducible repeat (first | apply Kd.R_alloc | apply Kd.R_drewN | apply Kd.R_drew)); exact HO578.out) (Kd.R_base ho0) hb)
                                  have n1_ := Aside0.mk (Kd.R_elder' (by (with_reducible repeat (first | apply Kd.R_alloc | apply Kd.R_drewN | apply Kd.R_drew)); exact HO581.out) (Kd.R_base ho0) hb)
                                  have n2_ := Aside0.mk (Kd.R_elder' (by (with_reducible repeat (first | apply Kd.R_alloc | apply Kd.R_drewN | apply Kd.R_drew)); exact HO597.out) (Kd.R_base ho0) hb)
                                  have n3_ := Aside0.mk (Kd.R_elder' (by (with_reducible repeat (first | apply Kd.R_alloc | apply Kd.R_drewN | apply Kd.R_drew)); exact HO605.out) (Kd.R_base ho0) hb)
                                  have n4_ := Aside0.mk (Kd.R_lower (Kd.R_new' (Kd.R_new' (Kd.R_new' (Kd.R_new' ho0 (Kd.R_lt (by (with_reducible repeat (first | apply Kd.R_alloc | apply Kd.R_drewN | apply Kd.R_drew)); exact HO578.out))) (Kd.R_lt (by (with_reducible repeat (first | apply Kd.R_alloc | apply Kd.R_drewN | apply Kd.R_drew)); exact HO581.out))) (Kd.R_lt (by (with_reducible repeat (first | apply Kd.R_alloc | apply Kd.R_drewN | apply Kd.R_drew)); exact HO597.out))) (Kd.R_lt (by (with_reducible repeat (first | apply Kd.R_alloc | apply Kd.R_drewN | apply Kd.R_drew)); exact HO605.out))) (below_size (by repeat (first | (with_reducible first | exact HB.out | apply below_alloc | apply pw_below_drewN | apply below_drew1 | refine below_set ?_ GE570.out | refine below_set ?_ GE574.out) | exact HB.out))))
                                  have n5_ := Aside0.mk (blk_below (g := gb570) (o := .cells #[.bool a0_0, .int .i64 a0_1, .bool a0_2, .int .i64 a0_3, .slice A0_4 l0_4.length c0_4] 24 (0, 0)) (by (with_reducible repeat (first | refine blk_drewN ?_ _ | refine blk_drew ?_ | refine blk_alloc ?_ _)); exact BK570.out) hb)
                                  have n6_ := Aside0.mk (blk_below (g := gb574) (o := .cells #[.bool a0_0, .int .i64 a0_1, .bool a0_2, .int .i64 a0_3, .slice A1 (l1.take (a0_3 : Int).toNat).length c1] 24 (0, 0)) (by (with_reducible repeat (first | refine blk_drewN ?_ _ | refine blk_drew ?_ | refine blk_alloc ?_ _)); exact BK574.out) hb)
                                  have n7_ := Aside0.mk (HW.C_carry HR585.out hb (by repeat (first | (with_reducible exact HR585.out) | (with_reducible refine Kd.C_alloc ?_ _) | (with_reducible refine Kd.C_drewN ?_ _) | (with_reducible refine Kd.C_drew ?_) | exact HR585.out)))
                                  have n8_ := Aside0.mk (HW.C_carry HR589.out hb (by repeat (first | (with_reducible exact HR589.out) | (with_reducible refine Kd.C_alloc ?_ _) | (with_reducible refine Kd.C_drewN ?_ _) | (with_reducible refine Kd.C_drew ?_) | exact HR589.out)))
                                  have n9_ := Aside0.mk (HW.C_carry HR594.out hb (by repeat (first | (with_reducible exact HR594.out) | (with_reducible refine Kd.C_alloc ?_ _) | (with_reducible refine Kd.C_drewN ?_ _) | (with_reducible refine Kd.C_drew ?_) | exact HR594.out)))
                                  have n10_ := Aside0.mk (HW.C_carry HR602.out hb (by repeat (first | (with_reducible exact HR602.out) | (with_reducible refine Kd.C_alloc ?_ _) | (with_reducible refine Kd.C_drewN ?_ _) | (with_reducible refine Kd.C_drew ?_) | exact HR602.out)))
                                  have n11_ := Aside0.mk (below_step (by repeat (first | (with_reducible first | exact HB.out | apply below_alloc | apply pw_below_drewN | apply below_drew1 | refine below_set ?_ GE570.out | refine below_set ?_ GE574.out) | exact HB.out)) hb)
                                  clear HO578
                                  clear HO581
                                  clear HO597
                                  clear HO605
                                  clear BK570
                                  clear BK574
                                  clear HR585
                                  clear HR589
                                  clear HR594
                                  clear HR602
                                  clear HB
                                  have HO578 := n0_
                                  have HO581 := n1_
                                  have HO597 := n2_
                                  have HO605 := n3_
                                  have HO609 := n4_
                                  have BK570 := n5_
                                  have BK574 := n6_
                                  have HR585 := n7_
                                  have HR589 := n8_
                                  have HR594 := n9_
                                  have HR602 := n10_
                                  have HB := n11_
                                  clear n0_ n1_ n2_ n3_ n4_ n5_ n6_ n7_ n8_ n9_ n10_ n11_
                                  (try clear hb)
                                  (try clear hb2)
                                  (try clear hk)
                                  (try clear hi)
                                  (try clear ho0)
                                  refine hK.out _ _ ⟨(blk_cell BK570.out 0).trans rfl, (blk_cell BK570.out 1).trans rfl, (blk_cell BK570.out 2).trans rfl, (blk_cell BK570.out 3).trans rfl, (blk_cell BK570.out 4).trans rfl, (blk_cell BK574.out 0).trans rfl, (blk_cell BK574.out 1).trans rfl, (blk_cell BK574.out 2).trans rfl, (blk_cell BK574.out 3).trans rfl, (blk_cell BK574.out 4).trans rfl⟩ (fun hHeld => ?_)
                                  clear hK K
                                  refine norm_ (a' := ?_) ?_ ?_
                                  rotate_left
                                  · show Act.put _ (some 92) _ = _
                                    simp only [Act.put, List.setIfInBounds_toArray, List.set_cons_zero, List.set_cons_succ, i64_w, i32_w]
                                    rfl
                                  refine one_ (i := 43) (N := some 94) #[true, true, true, true, true, true, true, true, true, true, true, true, true, true, true, true, true, true, true, true, true, true, true, true, true, true, true, true, true, true, true, true, true, true, true, true, true, true, true, true, true, true, true, true, false, false, false, false, false, false, false, false, false, false, false, false, false, false] rfl rfl (one_of HT_.out (by kernel_rfl)) (by decide) (fun K hK => ?_)
                                  refine goes_ Try.func19 (by kernel_rfl) rfl #[.agg #[.bool a0_0, .int .i64 a0_1, .bool a0_2, .int .i64 a0_3, .slice A1 (l1.take (a0_3 : Int).toNat).length c1]] (by rfl) rfl rfl (by (try simp only [List.map_toArray, List.map_cons, List.map_nil]); first | done | (rw [show (l1.take (a0_3 : Int).toNat).length = a0_3.toNat from (by rw [List.length_take]; have h_ : (a0_3 : Int) ≤ (l1.length : Int) := of_decide_eq_true (by first | (with_reducible assumption) | assumption); omega)] <;> rfl) | rfl | (simp only [List.length_drop, List.length_take]; rfl)) ?_
                                  with_reducible refine (frame_Rank.calls a0_0 a0_1 a0_2 a0_3 _ _ (l1.take (a0_3 : Int).toNat) t610 _ ?side1 ?side2 A61.out).mono ?_
                                  (case side1 => repeat (first | exact (Kd.C_below HR575.out HB.out) | (with_reducible refine Kd.C_alloc ?_ _) | (with_reducible refine Kd.C_drewN ?_ _) | (with_reducible refine Kd.C_drew ?_)))
                                  (case side2 => exact HC575.out)
                                  rintro e w89 ⟨v611, rfl, ho0, hb⟩
                                  refine ⟨_, rfl, ?_⟩
                                  have n0_ := Aside0.mk (Kd.R_elder' (by (with_reducible repeat (first | apply Kd.R_alloc | apply Kd.R_drewN | apply Kd.R_drew)); exact HO578.out) (Kd.R_base ho0) hb)
                                  have n1_ := Aside0.mk (Kd.R_elder' (by (with_reducible repeat (first | apply Kd.R_alloc | apply Kd.R_drewN | apply Kd.R_drew)); exact HO581.out) (Kd.R_base ho0) hb)
                                  have n2_ := Aside0.mk (Kd.R_elder' (by (with_reducible repeat (first | apply Kd.R_alloc | apply Kd.R_drewN | apply Kd.R_drew)); exact HO597.out) (Kd.R_base ho0) hb)
                                  have n3_ := Aside0.mk (Kd.R_elder' (by (with_reducible repeat (first | apply Kd.R_alloc | apply Kd.R_drewN | apply Kd.R_drew)); exact HO605.out) (Kd.R_base ho0) hb)
                                  have n4_ := Aside0.mk (Kd.R_elder' (by (with_reducible repeat (first | apply Kd.R_alloc | apply Kd.R_drewN | apply Kd.R_drew)); exact HO609.out) (Kd.R_base ho0) hb)
                                  have n5_ := Aside0.mk (Kd.R_lower (Kd.R_new' (Kd.R_new' (Kd.R_new' (Kd.R_new' (Kd.R_new' ho0 (Kd.R_lt (by (with_reducible repeat (first | apply Kd.R_alloc | apply Kd.R_drewN | apply Kd.R_drew)); exact HO578.out))) (Kd.R_lt (by (with_reducible repeat (first | apply Kd.R_alloc | apply Kd.R_drewN | apply Kd.R_drew)); exact HO581.out))) (Kd.R_lt (by (with_reducible repeat (first | apply Kd.R_alloc | apply Kd.R_drewN | apply Kd.R_drew)); exact HO597.out))) (Kd.R_lt (by (with_reducible repeat (first | apply Kd.R_alloc | apply Kd.R_drewN | apply Kd.R_drew)); exact HO605.out))) (Kd.R_lt (by (with_reducible repeat (first | apply Kd.R_alloc | apply Kd.R_drewN | apply Kd.R_drew)); exact HO609.out))) (below_size (by repeat (first | (with_reducible first | exact HB.out | apply below_alloc | apply pw_below_drewN | apply below_drew1 | refine below_set ?_ GE570.out | refine below_set ?_ GE574.out) | exact HB.out))))
                                  have n6_ := Aside0.mk (blk_below (g := gb570) (o := .cells #[.bool a0_0, .int .i64 a0_1, .bool a0_2, .int .i64 a0_3, .slice A0_4 l0_4.length c0_4] 24 (0, 0)) (by (with_reducible repeat (first | refine blk_drewN ?_ _ | refine blk_drew ?_ | refine blk_alloc ?_ _)); exact BK570.out) hb)
                                  have n7_ := Aside0.mk (blk_below (g := gb574) (o := .cells #[.bool a0_0, .int .i64 a0_1, .bool a0_2, .int .i64 a0_3, .slice A1 (l1.take (a0_3 : Int).toNat).length c1] 24 (0, 0)) (by (with_reducible repeat (first | refine blk_drewN ?_ _ | refine blk_drew ?_ | refine blk_alloc ?_ _)); exact BK574.out) hb)
                                  have n8_ := Aside0.mk (HW.C_carry HR585.out hb (by repeat (first | (with_reducible exact HR585.out) | (with_reducible refine Kd.C_alloc ?_ _) | (with_reducible refine Kd.C_drewN ?_ _) | (with_reducible refine Kd.C_drew ?_) | exact HR585.out)))
                                  have n9_ := Aside0.mk (HW.C_carry HR589.out hb (by repeat (first | (with_reducible exact HR589.out) | (with_reducible refine Kd.C_alloc ?_ _) | (with_reducible refine Kd.C_drewN ?_ _) | (with_reducible refine Kd.C_drew ?_) | exact HR589.out)))
                                  have n10_ := Aside0.mk (HW.C_carry HR594.out hb (by repeat (first | (with_reducible exact HR594.out) | (with_reducible refine Kd.C_alloc ?_ _) | (with_reducible refine Kd.C_drewN ?_ _) | (with_reducible refine Kd.C_drew ?_) | exact HR594.out)))
                                  have n11_ := Aside0.mk (HW.C_carry HR602.out hb (by repeat (first | (with_reducible exact HR602.out) | (with_reducible refine Kd.C_alloc ?_ _) | (with_reducible refine Kd.C_drewN ?_ _) | (with_reducible refine Kd.C_drew ?_) | exact HR602.out)))
                                  have n12_ := Aside0.mk (below_step (by repeat (first | (with_reducible first | exact HB.out | apply below_alloc | apply pw_below_drewN | apply below_drew1 | refine below_set ?_ GE570.out | refine below_set ?_ GE574.out) | exact HB.out)) hb)
                                  clear HO578
                                  clear HO581
                                  clear HO597
                                  clear HO605
                                  clear HO609
                                  clear BK570
                                  clear BK574
                                  clear HR585
                                  clear HR589
                                  clear HR594
                                  clear HR602
                                  clear HB
                                  have HO578 := n0_
                                  have HO581 := n1_
                                  have HO597 := n2_
                                  have HO605 := n3_
                                  have HO609 := n4_
                                  have HO612 := n5_
                                  have BK570 := n6_
                                  have BK574 := n7_
                                  have HR585 := n8_
                                  have HR589 := n9_
                                  have HR594 := n10_
                                  have HR602 := n11_
                                  have HB := n12_
                                  clear n0_ n1_ n2_ n3_ n4_ n5_ n6_ n7_ n8_ n9_ n10_ n11_ n12_
                                  (try clear hb)
                                  (try clear hb2)
                                  (try clear hk)
                                  (try clear hi)
                                  (try clear ho0)
                                  obtain ⟨Ao90, co90, eo90⟩ := Kd.R_slice HO609.out
                                  (first | subst eo90 | (injection eo90 with f1_ f2_ f3_; have f4_ := f1_.symm; have f5_ := f3_.symm; clear f1_ f2_ f3_; subst f4_; subst f5_))
                                  obtain ⟨Ao91, co91, eo91⟩ := Kd.R_slice HO612.out
                                  (first | subst eo91 | (injection eo91 with f1_ f2_ f3_; have f4_ := f1_.symm; have f5_ := f3_.symm; clear f1_ f2_ f3_; subst f4_; subst f5_))
                                  refine hK.out _ _ ⟨(blk_cell BK570.out 0).trans rfl, (blk_cell BK570.out 1).trans rfl, (blk_cell BK570.out 2).trans rfl, (blk_cell BK570.out 3).trans rfl, (blk_cell BK570.out 4).trans rfl, (blk_cell BK574.out 0).trans rfl, (blk_cell BK574.out 1).trans rfl, (blk_cell BK574.out 2).trans rfl, (blk_cell BK574.out 3).trans rfl, (blk_cell BK574.out 4).trans rfl⟩ (fun hHeld => ?_)
                                  clear hK K
                                  refine norm_ (a' := ?_) ?_ ?_
                                  rotate_left
                                  · show Act.put _ (some 94) _ = _
                                    simp only [Act.put, List.setIfInBounds_toArray, List.set_cons_zero, List.set_cons_succ, i64_w, i32_w]
                                    rfl
                                  refine one_ (i := 44) (N := some 95) #[true, true, true, true, true, true, true, true, true, true, true, true, true, true, true, true, true, true, true, true, true, true, true, true, true, true, true, true, true, true, true, true, true, true, true, true, true, true, true, true, true, true, true, true, true, false, false, false, false, false, false, false, false, false, false, false, false, false] rfl rfl (one_of HT_.out (by kernel_rfl)) (by decide) (fun K hK => ?_)
                                  refine goes_ Try.func16 (by kernel_rfl) rfl #[.slice Ao90 t607.length co90, .slice Ao91 t610.length co91] (by rfl) rfl rfl (by (try simp only [List.map_toArray, List.map_cons, List.map_nil]); first | done | rfl | (simp only [List.length_drop, List.length_take]; rfl)) ?_
                                  with_reducible refine (phaetonref01_Same.calls kj3 _ _ t607 _ _ t610 true _ ?side1 ?side2 ?side3 ?side4 A62.out).mono ?_
                                  (case side1 => repeat (first | exact (Kd.R_reads' HO609.out).2.2 | (with_reducible refine Kd.C_alloc ?_ _) | (with_reducible refine Kd.C_drewN ?_ _) | (with_reducible refine Kd.C_drew ?_)))
                                  (case side2 => exact (Kd.R_reads' HO609.out).2.1)
                                  (case side3 => repeat (first | exact (Kd.R_reads' HO612.out).2.2 | (with_reducible refine Kd.C_alloc ?_ _) | (with_reducible refine Kd.C_drewN ?_ _) | (with_reducible refine Kd.C_drew ?_)))
                                  (case side4 => exact (Kd.R_reads' HO612.out).2.1)
                                  rintro e w' ⟨rfl, ⟨nd, rfl⟩⟩
                                  refine ⟨_, rfl, ?_⟩
                                  refine hK.out _ _ ⟨(blk_cell BK570.out 0).trans rfl, (blk_cell BK570.out 1).trans rfl, (blk_cell BK570.out 2).trans rfl, (blk_cell BK570.out 3).trans rfl, (blk_cell BK570.out 4).trans rfl, (blk_cell BK574.out 0).trans rfl, (blk_cell BK574.out 1).trans rfl, (blk_cell BK574.out 2).trans rfl, (blk_cell BK574.out 3).trans rfl, (blk_cell BK574.out 4).trans rfl⟩ (fun hHeld => ?_)
                                  clear hK K
                                  refine norm_ (a' := ?_) ?_ ?_
                                  rotate_left
                                  · show Act.put _ (some 95) _ = _
                                    simp only [Act.put, List.setIfInBounds_toArray, List.set_cons_zero, List.set_cons_succ, i64_w, i32_w]
                                    rfl
                                  refine pure_ (i := 45) (N := some 96) (v := ?_) (a' := ?_) #[true, true, true, true, true, true, true, true, true, true, true, true, true, true, true, true, true, true, true, true, true, true, true, true, true, true, true, true, true, true, true, true, true, true, true, true, true, true, true, true, true, true, true, true, true, true, false, false, false, false, false, false, false, false, false, false, false, false] rfl rfl (any_of HT_.out (by kernel_rfl)) (fun _ _ _ h => h) (Or.inl ⟨by rfl, ?_⟩) ?_ ?_
                                  rotate_left
                                  · intro w'
                                    go_simp
                                    with_reducible rfl
                                  rotate_left
                                  · simp only [Act.put, List.setIfInBounds_toArray, List.set_cons_zero, List.set_cons_succ, i64_w, i32_w]
                                    rfl
                                  refine pure_ (i := 46) (N := some 97) (v := ?_) (a' := ?_) #[true, true, true, true, true, true, true, true, true, true, true, true, true, true, true, true, true, true, true, true, true, true, true, true, true, true, true, true, true, true, true, true, true, true, true, true, true, true, true, true, true, true, true, true, true, true, true, false, false, false, false, false, false, false, false, false, false, false] rfl rfl (any_of HT_.out (by kernel_rfl)) (fun _ _ _ h => h) (Or.inl ⟨by rfl, ?_⟩) ?_ ?_
                                  rotate_left
                                  · intro w'
                                    go_simp
                                    with_reducible rfl
                                  rotate_left
                                  · simp only [Act.put, List.setIfInBounds_toArray, List.set_cons_zero, List.set_cons_succ, i64_w, i32_w]
                                    rfl
                                  refine pure_ (i := 50) (N := some 101) (v := ?_) (a' := ?_) #[true, true, true, true, true, true, true, true, true, true, true, true, true, true, true, true, true, true, true, true, true, true, true, true, true, true, true, true, true, true, true, true, true, true, true, true, true, true, true, true, true, true, true, true, true, true, true, false, false, false, true, false, false, false, false, false, false, false] rfl rfl (any_of HT_.out (by kernel_rfl)) (fun _ _ _ h => h) (Or.inl ⟨by rfl, ?_⟩) ?_ ?_
                                  rotate_left
                                  · intro w'
                                    go_simp
                                    with_reducible rfl
                                  rotate_left
                                  · simp only [Act.put, List.setIfInBounds_toArray, List.set_cons_zero, List.set_cons_succ, i64_w, i32_w]
                                    rfl
                                  refine pure_ (i := 52) (N := some 103) (v := ?_) (a' := ?_) #[true, true, true, true, true, true, true, true, true, true, true, true, true, true, true, true, true, true, true, true, true, true, true, true, true, true, true, true, true, true, true, true, true, true, true, true, true, true, true, true, true, true, true, true, true, true, true, false, false, false, true, false, true, false, false, false, false, false] rfl rfl (any_of HT_.out (by kernel_rfl)) (fun _ _ _ h => h) (Or.inl ⟨by rfl, ?_⟩) ?_ ?_
                                  rotate_left
                                  · intro w'
                                    go_simp
                                    with_reducible rfl
                                  rotate_left
                                  · simp only [Act.put, List.setIfInBounds_toArray, List.set_cons_zero, List.set_cons_succ, i64_w, i32_w]
                                    rfl
                                  refine take_ (i := 47) (N := some 98) (v := ?_) (a' := ?_) #[true, true, true, true, true, true, true, true, true, true, true, true, true, true, true, true, true, true, true, true, true, true, true, true, true, true, true, true, true, true, true, true, true, true, true, true, true, true, true, true, true, true, true, true, true, true, true, true, false, false, true, false, true, false, false, false, false, false] rfl rfl (take_ofW HT_.out HW_.out (by kernel_rfl)) (fun _ _ _ h => h) (Or.inl ⟨by rfl, ?_⟩) hHeld ?_ ?_
                                  rotate_left
                                  · rintro w' ⟨s0, s1, s2, s3, s4, s5, s6, s7, s8, s9⟩
                                    go_simp
                                    with_reducible rfl
                                  rotate_left
                                  · simp only [Act.put, List.setIfInBounds_toArray, List.set_cons_zero, List.set_cons_succ, i64_w, i32_w]
                                    rfl
                                  refine take_ (i := 48) (N := some 99) (v := ?_) (a' := ?_) #[true, true, true, true, true, true, true, true, true, true, true, true, true, true, true, true, true, true, true, true, true, true, true, true, true, true, true, true, true, true, true, true, true, true, true, true, true, true, true, true, true, true, true, true, true, true, true, true, true, false, true, false, true, false, false, false, false, false] rfl rfl (take_ofW HT_.out HW_.out (by kernel_rfl)) (fun _ _ _ h => h) (Or.inl ⟨by rfl, ?_⟩) hHeld ?_ ?_
                                  rotate_left
                                  · rintro w' ⟨s0, s1, s2, s3, s4, s5, s6, s7, s8, s9⟩
                                    go_simp
                                    with_reducible rfl
                                  rotate_left
                                  · simp only [Act.put, List.setIfInBounds_toArray, List.set_cons_zero, List.set_cons_succ, i64_w, i32_w]
                                    rfl
                                  refine take_ (i := 51) (N := some 102) (v := ?_) (a' := ?_) #[true, true, true, true, true, true, true, true, true, true, true, true, true, true, true, true, true, true, true, true, true, true, true, true, true, true, true, true, true, true, true, true, true, true, true, true, true, true, true, true, true, true, true, true, true, true, true, true, true, false, true, true, true, false, false, false, false, false] rfl rfl (take_ofW HT_.out HW_.out (by kernel_rfl)) (fun _ _ _ h => h) (Or.inl ⟨by rfl, ?_⟩) hHeld ?_ ?_
                                  rotate_left
                                  · rintro w' ⟨s0, s1, s2, s3, s4, s5, s6, s7, s8, s9⟩
                                    go_simp
                                    with_reducible rfl
                                  rotate_left
                                  · simp only [Act.put, List.setIfInBounds_toArray, List.set_cons_zero, List.set_cons_succ, i64_w, i32_w]
                                    rfl
                                  refine take_ (i := 53) (N := some 104) (v := ?_) (a' := ?_) #[true, true, true, true, true, true, true, true, true, true, true, true, true, true, true, true, true, true, true, true, true, true, true, true, true, true, true, true, true, true, true, true, true, true, true, true, true, true, true, true, true, true, true, true, true, true, true, true, true, false, true, true, true, true, false, false, false, false] rfl rfl (take_ofW HT_.out HW_.out (by kernel_rfl)) (fun _ _ _ h => h) (Or.inl ⟨by rfl, ?_⟩) hHeld ?_ ?_
                                  rotate_left
                                  · rintro w' ⟨s0, s1, s2, s3, s4, s5, s6, s7, s8, s9⟩
                                    go_simp
                                    with_reducible rfl
                                  rotate_left
                                  · simp only [Act.put, List.setIfInBounds_toArray, List.set_cons_zero, List.set_cons_succ, i64_w, i32_w]
                                    rfl
                                  refine one_ (i := 49) (N := some 100) #[true, true, true, true, true, true, true, true, true, true, true, true, true, true, true, true, true, true, true, true, true, true, true, true, true, true, true, true, true, true, true, true, true, true, true, true, true, true, true, true, true, true, true, true, true, true, true, true, true, true, true, true, true, true, false, false, false, false] rfl rfl (one_of HT_.out (by kernel_rfl)) (by decide) (fun K hK => ?_)
                                  refine goes_ Try.func14 (by kernel_rfl) rfl #[.agg #[.bool a0_0, .int .i64 a0_1, .bool a0_2, .int .i64 a0_3, .slice A0_4 l0_4.length c0_4], .agg #[.bool a0_0, .int .i64 a0_1, .bool a0_2, .int .i64 a0_3, .slice A1 (l1.take (a0_3 : Int).toNat).length c1]] (by rfl) rfl rfl (by (try simp only [List.map_toArray, List.map_cons, List.map_nil]); first | done | (rw [show (l1.take (a0_3 : Int).toNat).length = a0_3.toNat from (by rw [List.length_take]; have h_ : (a0_3 : Int) ≤ (l1.length : Int) := of_decide_eq_true (by first | (with_reducible assumption) | assumption); omega)] <;> rfl) | rfl | (simp only [List.length_drop, List.length_take]; rfl)) ?_
                                  with_reducible refine (frame_Same.calls a0_0 a0_1 a0_2 a0_3 _ _ l0_4 a0_0 a0_1 a0_2 a0_3 _ _ (l1.take (a0_3 : Int).toNat) t614 _ ?side1 ?side2 ?side3 ?side4 A64.out).mono ?_
                                  (case side1 => repeat (first | exact (Kd.C_below HR0_4.out (by repeat (first | (with_reducible first | exact HB.out | apply below_alloc | apply pw_below_drewN | apply below_drew1 | refine below_set ?_ GE570.out | refine below_set ?_ GE574.out) | exact HB.out))) | (with_reducible refine Kd.C_alloc ?_ _) | (with_reducible refine Kd.C_drewN ?_ _) | (with_reducible refine Kd.C_drew ?_)))
                                  (case side2 => exact HC0_4.out)
                                  (case side3 => repeat (first | exact (Kd.C_below HR575.out (by repeat (first | (with_reducible first | exact HB.out | apply below_alloc | apply pw_below_drewN | apply below_drew1 | refine below_set ?_ GE570.out | refine below_set ?_ GE574.out) | exact HB.out))) | (with_reducible refine Kd.C_alloc ?_ _) | (with_reducible refine Kd.C_drewN ?_ _) | (with_reducible refine Kd.C_drew ?_)))
                                  (case side4 => exact HC575.out)
                                  rintro e w92 ⟨rfl, hb⟩
                                  refine ⟨_, rfl, ?_⟩
                                  have n0_ := Aside0.mk (Kd.R_below (by (with_reducible repeat (first | apply Kd.R_alloc | apply Kd.R_drewN | apply Kd.R_drew)); exact HO578.out) hb)
                                  have n1_ := Aside0.mk (Kd.R_below (by (with_reducible repeat (first | apply Kd.R_alloc | apply Kd.R_drewN | apply Kd.R_drew)); exact HO581.out) hb)
                                  have n2_ := Aside0.mk (Kd.R_below (by (with_reducible repeat (first | apply Kd.R_alloc | apply Kd.R_drewN | apply Kd.R_drew)); exact HO597.out) hb)
                                  have n3_ := Aside0.mk (Kd.R_below (by (with_reducible repeat (first | apply Kd.R_alloc | apply Kd.R_drewN | apply Kd.R_drew)); exact HO605.out) hb)
                                  have n4_ := Aside0.mk (Kd.R_below (by (with_reducible repeat (first | apply Kd.R_alloc | apply Kd.R_drewN | apply Kd.R_drew)); exact HO609.out) hb)
                                  have n5_ := Aside0.mk (Kd.R_below (by (with_reducible repeat (first | apply Kd.R_alloc | apply Kd.R_drewN | apply Kd.R_drew)); exact HO612.out) hb)
                                  have n6_ := Aside0.mk (blk_below (g := gb570) (o := .cells #[.bool a0_0, .int .i64 a0_1, .bool a0_2, .int .i64 a0_3, .slice A0_4 l0_4.length c0_4] 24 (0, 0)) (by (with_reducible repeat (first | refine blk_drewN ?_ _ | refine blk_drew ?_ | refine blk_alloc ?_ _)); exact BK570.out) hb)
                                  have n7_ := Aside0.mk (blk_below (g := gb574) (o := .cells #[.bool a0_0, .int .i64 a0_1, .bool a0_2, .int .i64 a0_3, .slice A1 (l1.take (a0_3 : Int).toNat).length c1] 24 (0, 0)) (by (with_reducible repeat (first | refine blk_drewN ?_ _ | refine blk_drew ?_ | refine blk_alloc ?_ _)); exact BK574.out) hb)
                                  have n8_ := Aside0.mk (HW.C_carry HR585.out hb (by repeat (first | (with_reducible exact HR585.out) | (with_reducible refine Kd.C_alloc ?_ _) | (with_reducible refine Kd.C_drewN ?_ _) | (with_reducible refine Kd.C_drew ?_) | exact HR585.out)))
                                  have n9_ := Aside0.mk (HW.C_carry HR589.out hb (by repeat (first | (with_reducible exact HR589.out) | (with_reducible refine Kd.C_alloc ?_ _) | (with_reducible refine Kd.C_drewN ?_ _) | (with_reducible refine Kd.C_drew ?_) | exact HR589.out)))
                                  have n10_ := Aside0.mk (HW.C_carry HR594.out hb (by repeat (first | (with_reducible exact HR594.out) | (with_reducible refine Kd.C_alloc ?_ _) | (with_reducible refine Kd.C_drewN ?_ _) | (with_reducible refine Kd.C_drew ?_) | exact HR594.out)))
                                  have n11_ := Aside0.mk (HW.C_carry HR602.out hb (by repeat (first | (with_reducible exact HR602.out) | (with_reducible refine Kd.C_alloc ?_ _) | (with_reducible refine Kd.C_drewN ?_ _) | (with_reducible refine Kd.C_drew ?_) | exact HR602.out)))
                                  have n12_ := Aside0.mk (below_step (by repeat (first | (with_reducible first | exact HB.out | apply below_alloc | apply pw_below_drewN | apply below_drew1 | refine below_set ?_ GE570.out | refine below_set ?_ GE574.out) | exact HB.out)) hb)
                                  clear HO578
                                  clear HO581
                                  clear HO597
                                  clear HO605
                                  clear HO609
                                  clear HO612
                                  clear BK570
                                  clear BK574
                                  clear HR585
                                  clear HR589
                                  clear HR594
                                  clear HR602
                                  clear HB
                                  have HO578 := n0_
                                  have HO581 := n1_
                                  have HO597 := n2_
                                  have HO605 := n3_
                                  have HO609 := n4_
                                  have HO612 := n5_
                                  have BK570 := n6_
                                  have BK574 := n7_
                                  have HR585 := n8_
                                  have HR589 := n9_
                                  have HR594 := n10_
                                  have HR602 := n11_
                                  have HB := n12_
                                  clear n0_ n1_ n2_ n3_ n4_ n5_ n6_ n7_ n8_ n9_ n10_ n11_ n12_
                                  (try clear hb)
                                  (try clear hb2)
                                  (try clear hk)
                                  (try clear hi)
                                  refine hK.out _ _ ⟨(blk_cell BK570.out 0).trans rfl, (blk_cell BK570.out 1).trans rfl, (blk_cell BK570.out 2).trans rfl, (blk_cell BK570.out 3).trans rfl, (blk_cell BK570.out 4).trans rfl, (blk_cell BK574.out 0).trans rfl, (blk_cell BK574.out 1).trans rfl, (blk_cell BK574.out 2).trans rfl, (blk_cell BK574.out 3).trans rfl, (blk_cell BK574.out 4).trans rfl⟩ (fun hHeld => ?_)
                                  clear hK K
                                  refine norm_ (a' := ?_) ?_ ?_
                                  rotate_left
                                  · show Act.put _ (some 100) _ = _
                                    simp only [Act.put, List.setIfInBounds_toArray, List.set_cons_zero, List.set_cons_succ, i64_w, i32_w]
                                    rfl
                                  refine one_ (i := 54) (N := some 105) #[true, true, true, true, true, true, true, true, true, true, true, true, true, true, true, true, true, true, true, true, true, true, true, true, true, true, true, true, true, true, true, true, true, true, true, true, true, true, true, true, true, true, true, true, true, true, true, true, true, true, true, true, true, true, true, false, false, false] rfl rfl (one_of HT_.out (by kernel_rfl)) (by decide) (fun K hK => ?_)
                                  refine goes_ Try.func25 (by kernel_rfl) rfl #[.slice A0_4 l0_4.length c0_4, .slice A1 (l1.take (a0_3 : Int).toNat).length c1] (by rfl) rfl rfl (by (try simp only [List.map_toArray, List.map_cons, List.map_nil]); first | done | (rw [show (l1.take (a0_3 : Int).toNat).length = a0_3.toNat from (by rw [List.length_take]; have h_ : (a0_3 : Int) ≤ (l1.length : Int) := of_decide_eq_true (by first | (with_reducible assumption) | assumption); omega)] <;> rfl) | rfl | (simp only [List.length_drop, List.length_take]; rfl)) ?_
                                  with_reducible refine (phaetonref01_SameBytes.calls _ _ l0_4 _ _ (l1.take (a0_3 : Int).toNat) t615 _ ?side1 ?side2 ?side3 ?side4 A65.out).mono ?_
                                  (case side1 => repeat (first | exact (Kd.C_below HR0_4.out HB.out) | (with_reducible refine Kd.C_alloc ?_ _) | (with_reducible refine Kd.C_drewN ?_ _) | (with_reducible refine Kd.C_drew ?_)))
                                  (case side2 => exact HC0_4.out)
                                  (case side3 => repeat (first | exact (Kd.C_below HR575.out HB.out) | (with_reducible refine Kd.C_alloc ?_ _) | (with_reducible refine Kd.C_drewN ?_ _) | (with_reducible refine Kd.C_drew ?_)))
                                  (case side4 => exact HC575.out)
                                  rintro e w' ⟨rfl, ⟨nd, rfl⟩⟩
                                  refine ⟨_, rfl, ?_⟩
                                  refine hK.out _ _ ⟨(blk_cell BK570.out 0).trans rfl, (blk_cell BK570.out 1).trans rfl, (blk_cell BK570.out 2).trans rfl, (blk_cell BK570.out 3).trans rfl, (blk_cell BK570.out 4).trans rfl, (blk_cell BK574.out 0).trans rfl, (blk_cell BK574.out 1).trans rfl, (blk_cell BK574.out 2).trans rfl, (blk_cell BK574.out 3).trans rfl, (blk_cell BK574.out 4).trans rfl⟩ (fun hHeld => ?_)
                                  clear hK K
                                  refine norm_ (a' := ?_) ?_ ?_
                                  rotate_left
                                  · show Act.put _ (some 105) _ = _
                                    simp only [Act.put, List.setIfInBounds_toArray, List.set_cons_zero, List.set_cons_succ, i64_w, i32_w]
                                    rfl
                                  refine pure_ (i := 55) (N := some 106) (v := ?_) (a' := ?_) #[true, true, true, true, true, true, true, true, true, true, true, true, true, true, true, true, true, true, true, true, true, true, true, true, true, true, true, true, true, true, true, true, true, true, true, true, true, true, true, true, true, true, true, true, true, true, true, true, true, true, true, true, true, true, true, true, false, false] rfl rfl (any_of HT_.out (by kernel_rfl)) (fun _ _ _ h => h) (Or.inl ⟨by rfl, ?_⟩) ?_ ?_
                                  rotate_left
                                  · intro w'
                                    go_simp
                                    with_reducible rfl
                                  rotate_left
                                  · simp only [Act.put, List.setIfInBounds_toArray, List.set_cons_zero, List.set_cons_succ, i64_w, i32_w]
                                    rfl
                                  refine pure_ (i := 56) (N := some 107) (v := ?_) (a' := ?_) #[true, true, true, true, true, true, true, true, true, true, true, true, true, true, true, true, true, true, true, true, true, true, true, true, true, true, true, true, true, true, true, true, true, true, true, true, true, true, true, true, true, true, true, true, true, true, true, true, true, true, true, true, true, true, true, true, true, false] rfl rfl (any_of HT_.out (by kernel_rfl)) (fun _ _ _ h => h) (Or.inl ⟨by rfl, ?_⟩) ?_ ?_
                                  rotate_left
                                  · intro w'
                                    go_simp
                                    with_reducible rfl
                                  rotate_left
                                  · simp only [Act.put, List.setIfInBounds_toArray, List.set_cons_zero, List.set_cons_succ, i64_w, i32_w]
                                    rfl
                                  refine pure_ (i := 57) (N := some 4) (v := ?_) (a' := ?_) #[true, true, true, true, true, true, true, true, true, true, true, true, true, true, true, true, true, true, true, true, true, true, true, true, true, true, true, true, true, true, true, true, true, true, true, true, true, true, true, true, true, true, true, true, true, true, true, true, true, true, true, true, true, true, true, true, true, true] rfl rfl (any_of HT_.out (by kernel_rfl)) (fun _ _ _ h => h) (Or.inl ⟨by rfl, ?_⟩) ?_ ?_
                                  rotate_left
                                  · intro w'
                                    go_simp
                                    with_reducible rfl
                                  rotate_left
                                  · simp only [Act.put, List.setIfInBounds_toArray, List.set_cons_zero, List.set_cons_succ, i64_w, i32_w]
                                    rfl
                                  refine done_ (done_of HT_.out (by kernel_rfl)) ?_
                                  try go_wp2
                                  go_ret
                                  exact ⟨by first | rfl | (simp [errW_none, errW_some] <;> rfl) | (simp only [← hji43]; first | rfl | (simp [errW_none, errW_some] <;> rfl)) | (simp [*, errW_none, errW_some] <;> rfl), by repeat (first | (with_reducible first | exact HB.out | apply below_alloc | apply pw_below_drewN | apply below_drew1 | refine below_set ?_ GE570.out | refine below_set ?_ GE574.out) | exact HB.out)⟩
                                · rw [if_neg c66] at H
                                  exact absurd H (by simp)
                              · replace c63 := Bool.eq_false_iff.mpr c63
                                subst c63
                                have H1 : (none) = some r := by rw [if_neg (show ¬ (false = true) by decide)] at H; exact H
                                clear H
                                have H := H1
                                clear H1
                                exact absurd H (by simp)
                            · replace c59 := Bool.eq_false_iff.mpr c59
                              subst c59
                              have H1 : (none) = some r := by rw [if_neg (show ¬ (false = true) by decide)] at H; exact H
                              clear H
                              have H := H1
                              clear H1
                              exact absurd H (by simp)
                          · replace c54 := Bool.eq_false_iff.mpr c54
                            subst c54
                            have H1 : (none) = some r := by rw [if_neg (show ¬ (false = true) by decide)] at H; exact H
                            clear H
                            have H := H1
                            clear H1
                            exact absurd H (by simp)
                        · replace c49 := Bool.eq_false_iff.mpr c49
                          subst c49
                          have H1 : (none) = some r := by rw [if_neg (show ¬ (false = true) by decide)] at H; exact H
                          clear H
                          have H := H1
                          clear H1
                          exact absurd H (by simp)
                      · rw [if_neg c47] at H
                        exact absurd H (by simp)
                    · rw [if_neg c45] at H
                      exact absurd H (by simp)
                  · rw [if_neg c44] at H
                    exact absurd H (by simp)
                · rw [if_neg c42] at H
                  have c42b0 : ((t576.length : Int) == (t579.length : Int)) = false := beq_eq_false_iff_ne.mpr c42
                  have c42b1 : ((t576.length : Int) != (t579.length : Int)) = true := bne_iff_ne.mpr c42
                  have c42b2 : (t576.length == t579.length) = false := by first | simpa using c42 | (simp at c42 ⊢; omega)
                  exact absurd H (by simp)
              · rw [if_neg c41] at H
                have c41b0 : decide (0 < (wrap64 ((t576.length : Int) - (wrap64 (8 * a0_3))))) = false := decide_eq_false c41
                clear c41
                exact absurd H (by simp)
            · replace c40 := Bool.eq_false_iff.mpr c40
              subst c40
              have H1 : (none) = some r := by rw [if_neg (show ¬ (false = true) by decide)] at H; exact H
              clear H
              have H := H1
              clear H1
              exact absurd H (by simp)
          · rw [if_neg c37] at H
            exact absurd H (by simp)
        · rw [if_neg c36] at H
          exact absurd H (by simp)

/-- THE ONE PURE STATEMENT of phaetonlaw04_FrameData. -/
def phaetonlaw04_FrameData.Pure : Prop := ∀ (a0_0 : Bool) (a0_1 : Int) (a0_2 : Bool) (a0_3 : Int) (l0_4 : List Int) (l1 : List Int), (Lit.int .i64 a0_1).wf = true → (Lit.int .i64 a0_3).wf = true → l0_4.length ≤ maxLen → (∀ x ∈ l0_4, (fun (x : Int) => (Lit.int .u8 x).wf = true) x) → l1.length ≤ maxLen → l1.length * 1 ≤ 140737488351232 → (∀ x ∈ l1, (fun (x : Int) => (Lit.int .u8 x).wf = true) x) → ∃ k, phaetonlaw04_FrameData.f k a0_0 a0_1 a0_2 a0_3 l0_4 l1 = some true
theorem phaetonlaw04_FrameData.walk (P : phaetonlaw04_FrameData.Pure) (a0_0 : Bool) (a0_1 : Int) (a0_2 : Bool) (a0_3 : Int) (A0_4 : Option Addr) (c0_4 : Nat) (l0_4 : List Int) (A1 : Option Addr) (c1 : Nat) (l1 : List Int) (w : World) (hw0_1 : (Lit.int .i64 a0_1).wf = true) (hw0_3 : (Lit.int .i64 a0_3).wf = true) (hw0_4 : ∀ x ∈ l0_4, (fun (x : Int) => (Lit.int .u8 x).wf = true) x) (hr0_4 : Kd.C (Kd.int .u8) w A0_4 l0_4.length l0_4) (hc0_4 : l0_4.length ≤ c0_4) (y1 : l1.length * 1 ≤ 140737488351232) (hw1 : ∀ x ∈ l1, (fun (x : Int) => (Lit.int .u8 x).wf = true) x) (hr1 : Kd.C (Kd.int .u8) w A1 l1.length l1) (hc1 : l1.length ≤ c1) :
    Calls Try.prog 9 #[.agg #[.bool a0_0, .int .i64 a0_1, .bool a0_2, .int .i64 a0_3, .slice A0_4 l0_4.length c0_4], .slice A1 l1.length c1] w fun e w' => e = .returned (.bool true) ∧ Below w.heap.size w w' := by
  obtain ⟨k, h⟩ := P a0_0 a0_1 a0_2 a0_3 l0_4 l1 hw0_1 hw0_3 (by have := hr0_4.2.1; unfold maxLen; omega) hw0_4 (by have := hr1.2.1; unfold maxLen; omega) y1 hw1
  refine (phaetonlaw04_FrameData.calls k a0_0 a0_1 a0_2 a0_3 _ _ l0_4 _ _ l1 true w hr0_4 hc0_4 hr1 hc1 h).mono ?_
  rintro e w' ⟨rfl, hd⟩
  exact ⟨rfl, hd⟩

end Go.Proofs.Ytiphbgcmbbfpmaa.Px

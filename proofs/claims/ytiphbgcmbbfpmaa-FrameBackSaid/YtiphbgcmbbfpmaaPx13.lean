-- Written by myprint.py, a program of this session's, over the kit's print.py; not a text of print.sh's own.
import Derived.Test.YtiphbgcmbbfpmaaPx0
import Derived.Test.YtiphbgcmbbfpmaaPx1
import Derived.Test.YtiphbgcmbbfpmaaPx2
import Derived.Test.YtiphbgcmbbfpmaaPx4
import Derived.Test.YtiphbgcmbbfpmaaPx6
import Derived.Test.YtiphbgcmbbfpmaaPx7
import Derived.Test.YtiphbgcmbbfpmaaPx10
namespace Go.Proofs.Ytiphbgcmbbfpmaa.Px
open Go.RowKit Go.Proofs.YtiphbgcmbbfpmaaW.PrintWords Go.Proofs.YtiphbgcmbbfpmaaW.PrintLast Go.Proofs.YtiphbgcmbbfpmaaW.PrintMore
attribute [local go_sem] max2_int min2_int max_two min_two max_three min_three max_four min_four   -- for this text's walks alone
set_option linter.unusedVariables false
set_option linter.unusedSimpArgs false

/-! ### phaetonlaw04_FrameBack: function 4 -/
mutual
def phaetonlaw04_FrameBack.j0 : Nat → List Int → Int → Bool → Bool → Bool → Int → Bool → Int → List Int → Option (Bool)
  | 0, _, _, _, _, _, _, _, _, _ => none
  | k + 1, x1, x2, x7, x32, x398000, x398001, x398002, x398003, x398004 => if x32 = true then (if x7 = true then (some true) else (none)) else ((frame_Head.f x398000 x398001 x398002 x398003 x398004).bind fun t402 => ((some (([] : List Int) : List Int)).bind fun y405 => (if y405.length + t402.length < 17592186044416 then ((some (y405 ++ t402 : List Int)).bind fun y408 => (if y408.length + x1.length < 17592186044416 then ((frame_Read.f (y408 ++ x1)).bind fun bt414 => (if (t402.length : Int) = 0 then (phaetonlaw04_FrameBack.j1 k x2 x7 t402 true) else ((phaetonref04_Same.f x398000 x398001 x398002 x398003 x398004 bt414.1 bt414.2.1 bt414.2.2.1 bt414.2.2.2.1 bt414.2.2.2.2.1).bind fun t424 => (if t424 = true then (if bt414.2.2.2.2.2.1 = (t402.length : Int) then (if bt414.2.2.2.2.2.2 = 0 then ((phaetonref01_Right.f k t402).bind fun t425 => (phaetonlaw04_FrameBack.j1 k x2 x7 t402 (!t425))) else (phaetonlaw04_FrameBack.j1 k x2 x7 t402 true)) else (phaetonlaw04_FrameBack.j1 k x2 x7 t402 true)) else (phaetonlaw04_FrameBack.j1 k x2 x7 t402 true))))) else (none))) else (none))))
def phaetonlaw04_FrameBack.j1 : Nat → Int → Bool → List Int → Bool → Option (Bool)
  | 0, _, _, _, _ => none
  | k + 1, x2, x7, x8, x69 => if x69 = true then (none) else (if (x8.length : Int) = 0 then (none) else (if 0 ≤ (Int.tmod (wrap64 (x2)) (x8.length : Int)) then (if (Int.tmod (wrap64 (x2)) (x8.length : Int)) ≤ (x8.length : Int) then ((frame_Read.f (x8.take ((Int.tmod (wrap64 (x2)) (x8.length : Int)) : Int).toNat)).bind fun bt430 => (if x7 = true then ((phaetonref04_Same.f bt430.1 bt430.2.1 bt430.2.2.1 bt430.2.2.2.1 bt430.2.2.2.2.1 false 0 false 0 ([] : List Int)).bind fun t440 => (if t440 = true then (if bt430.2.2.2.2.2.1 = 0 then (if bt430.2.2.2.2.2.2 = 40 then (some true) else (none)) else (none)) else (none))) else (none))) else (none)) else (none)))
end
def phaetonlaw04_FrameBack.f (k : Nat) (a0_0 : Bool) (a0_1 : Int) (a0_2 : Bool) (a0_3 : Int) (l0_4 : List Int) (l1 : List Int) (a2 : Int) : Option (Bool) := (phaetonlaw04_head.f k).bind fun t398 => ((phaetonlaw04_Great.f a0_0 a0_1 a0_2 a0_3 l0_4).bind fun t399 => (if t399 = true then (phaetonlaw04_FrameBack.j0 k l1 a2 t398 true a0_0 a0_1 a0_2 a0_3 l0_4) else ((phaetonref04_Right.f k a0_0 a0_1 a0_2 a0_3 l0_4).bind fun t400 => (if t400 = true then (if (l1.length : Int) > 200 then (phaetonlaw04_FrameBack.j0 k l1 a2 t398 true a0_0 a0_1 a0_2 a0_3 l0_4) else ((phaetonref01_Right.f k l1).bind fun t401 => (phaetonlaw04_FrameBack.j0 k l1 a2 t398 (!t401) a0_0 a0_1 a0_2 a0_3 l0_4))) else (phaetonlaw04_FrameBack.j0 k l1 a2 t398 true a0_0 a0_1 a0_2 a0_3 l0_4)))))
theorem phaetonlaw04_FrameBack.mono_l : ∀ k, (∀ y0 y1 y2 y3 y4 y5 y6 y7 y8, LeO (phaetonlaw04_FrameBack.j0 k y0 y1 y2 y3 y4 y5 y6 y7 y8) (phaetonlaw04_FrameBack.j0 (k + 1) y0 y1 y2 y3 y4 y5 y6 y7 y8)) ∧ (∀ y0 y1 y2 y3, LeO (phaetonlaw04_FrameBack.j1 k y0 y1 y2 y3) (phaetonlaw04_FrameBack.j1 (k + 1) y0 y1 y2 y3))
  | 0 => ⟨fun _ _ _ _ _ _ _ _ _ r h => by simp [phaetonlaw04_FrameBack.j0] at h, fun _ _ _ _ r h => by simp [phaetonlaw04_FrameBack.j1] at h⟩
  | k + 1 => by
    obtain ⟨ih0, ih1⟩ := phaetonlaw04_FrameBack.mono_l k
    refine ⟨?_, ?_⟩
    · intro y0 y1 y2 y3 y4 y5 y6 y7 y8
      unfold phaetonlaw04_FrameBack.j0
      repeat' first
      | (with_reducible exact ih0 _ _ _ _ _ _ _ _ _)
      | (with_reducible exact ih1 _ _ _ _)
      | (with_reducible exact phaetonlaw04_head.mono _)
      | (with_reducible exact phaetonref01_Right.mono _ _)
      | (with_reducible exact phaetonref04_Right.mono _ _ _ _ _ _)
      | (with_reducible exact LeO.refl _)
      | (with_reducible exact LeO.none _)
      | (with_reducible refine LeO.ite ?_ ?_)
      | (with_reducible refine LeO.bind ?_ (fun _ => ?_))
      | exact ih0 _ _ _ _ _ _ _ _ _
      | exact ih1 _ _ _ _
      | exact phaetonlaw04_head.mono _
      | exact phaetonref01_Right.mono _ _
      | exact phaetonref04_Right.mono _ _ _ _ _ _
      | exact LeO.none _
      | refine LeO.ite ?_ ?_
      | refine LeO.bind ?_ (fun _ => ?_)
    · intro y0 y1 y2 y3
      unfold phaetonlaw04_FrameBack.j1
      repeat' first
      | (with_reducible exact ih0 _ _ _ _ _ _ _ _ _)
      | (with_reducible exact ih1 _ _ _ _)
      | (with_reducible exact phaetonlaw04_head.mono _)
      | (with_reducible exact phaetonref01_Right.mono _ _)
      | (with_reducible exact phaetonref04_Right.mono _ _ _ _ _ _)
      | (with_reducible exact LeO.refl _)
      | (with_reducible exact LeO.none _)
      | (with_reducible refine LeO.ite ?_ ?_)
      | (with_reducible refine LeO.bind ?_ (fun _ => ?_))
      | exact ih0 _ _ _ _ _ _ _ _ _
      | exact ih1 _ _ _ _
      | exact phaetonlaw04_head.mono _
      | exact phaetonref01_Right.mono _ _
      | exact phaetonref04_Right.mono _ _ _ _ _ _
      | exact LeO.none _
      | refine LeO.ite ?_ ?_
      | refine LeO.bind ?_ (fun _ => ?_)
theorem phaetonlaw04_FrameBack.mono : ∀ a0 a1 a2 a3 a4 a5 a6 k, LeO (phaetonlaw04_FrameBack.f k a0 a1 a2 a3 a4 a5 a6) (phaetonlaw04_FrameBack.f (k + 1) a0 a1 a2 a3 a4 a5 a6) := by
  intro a0 a1 a2 a3 a4 a5 a6 k
  obtain ⟨ih0, ih1⟩ := phaetonlaw04_FrameBack.mono_l k
  unfold phaetonlaw04_FrameBack.f
  repeat' first
      | (with_reducible exact ih0 _ _ _ _ _ _ _ _ _)
      | (with_reducible exact ih1 _ _ _ _)
      | (with_reducible exact phaetonlaw04_head.mono _)
      | (with_reducible exact phaetonref01_Right.mono _ _)
      | (with_reducible exact phaetonref04_Right.mono _ _ _ _ _ _)
      | (with_reducible exact LeO.refl _)
      | (with_reducible exact LeO.none _)
      | (with_reducible refine LeO.ite ?_ ?_)
      | (with_reducible refine LeO.bind ?_ (fun _ => ?_))
      | exact ih0 _ _ _ _ _ _ _ _ _
      | exact ih1 _ _ _ _
      | exact phaetonlaw04_head.mono _
      | exact phaetonref01_Right.mono _ _
      | exact phaetonref04_Right.mono _ _ _ _ _ _
      | exact LeO.none _
      | refine LeO.ite ?_ ?_
      | refine LeO.bind ?_ (fun _ => ?_)
set_option maxHeartbeats 8000000 in
set_option maxRecDepth 100000 in
theorem phaetonlaw04_FrameBack.calls (k : Nat) (a0_0 : Bool) (a0_1 : Int) (a0_2 : Bool) (a0_3 : Int) (A0_4 : Option Addr) (c0_4 : Nat) (l0_4 : List Int) (A1 : Option Addr) (c1 : Nat) (l1 : List Int) (a2 : Int) (r : Bool) (w : World) (hr0_4 : Kd.C (Kd.int .u8) w A0_4 l0_4.length l0_4) (hc0_4 : l0_4.length ≤ c0_4) (hr1 : Kd.C (Kd.int .i64) w A1 l1.length l1) (hc1 : l1.length ≤ c1) (h : phaetonlaw04_FrameBack.f k a0_0 a0_1 a0_2 a0_3 l0_4 l1 a2 = some r) :
    Calls Try.prog 4 #[.agg #[.bool a0_0, .int .i64 a0_1, .bool a0_2, .int .i64 a0_3, .slice A0_4 l0_4.length c0_4], .slice A1 l1.length c1, .int .u8 a2] w fun e w' => e = .returned (.bool r) ∧ Below w.heap.size w w' := by
  have hu24 := Try.underlying24
  have HR0_4 := Aside0.mk hr0_4
  have HC0_4 := Aside0.mk hc0_4
  clear hr0_4 hc0_4
  have HR1 := Aside0.mk hr1
  have HC1 := Aside0.mk hc1
  clear hr1 hc1
  have HB := Aside0.mk (Below.refl w.heap.size w)
  have H : ((phaetonlaw04_head.f k).bind fun t398 => ((phaetonlaw04_Great.f a0_0 a0_1 a0_2 a0_3 l0_4).bind fun t399 => (if t399 = true then (phaetonlaw04_FrameBack.j0 k l1 a2 t398 true a0_0 a0_1 a0_2 a0_3 l0_4) else ((phaetonref04_Right.f k a0_0 a0_1 a0_2 a0_3 l0_4).bind fun t400 => (if t400 = true then (if (l1.length : Int) > 200 then (phaetonlaw04_FrameBack.j0 k l1 a2 t398 true a0_0 a0_1 a0_2 a0_3 l0_4) else ((phaetonref01_Right.f k l1).bind fun t401 => (phaetonlaw04_FrameBack.j0 k l1 a2 t398 (!t401) a0_0 a0_1 a0_2 a0_3 l0_4))) else (phaetonlaw04_FrameBack.j0 k l1 a2 t398 true a0_0 a0_1 a0_2 a0_3 l0_4)))))) = some r := h
  clear h
  replace H := Option.bind_eq_some_iff.mp H
  obtain ⟨t398, A40, H⟩ := H
  replace H : ((phaetonlaw04_Great.f a0_0 a0_1 a0_2 a0_3 l0_4).bind fun t399 => (if t399 = true then (phaetonlaw04_FrameBack.j0 k l1 a2 t398 true a0_0 a0_1 a0_2 a0_3 l0_4) else ((phaetonref04_Right.f k a0_0 a0_1 a0_2 a0_3 l0_4).bind fun t400 => (if t400 = true then (if (l1.length : Int) > 200 then (phaetonlaw04_FrameBack.j0 k l1 a2 t398 true a0_0 a0_1 a0_2 a0_3 l0_4) else ((phaetonref01_Right.f k l1).bind fun t401 => (phaetonlaw04_FrameBack.j0 k l1 a2 t398 (!t401) a0_0 a0_1 a0_2 a0_3 l0_4))) else (phaetonlaw04_FrameBack.j0 k l1 a2 t398 true a0_0 a0_1 a0_2 a0_3 l0_4))))) = some r := H
  have A4 := Aside0.mk A40
  clear A40
  have HC5 := Aside0.mk H
  clear H
  go_enter Try.func4, Try.ntmps4
  (try simp only [List.append])
  go_upto_region 2 with (first | ((with_reducible refine gate_dst (N := 3) rfl ?_); (try (refine gate_guard (by rfl) ?_; dsimp only)); refine box_event ?hg (N := 3) ?hd (cs := #[.bool a0_0, .int .i64 a0_1, .bool a0_2, .int .i64 a0_3, .slice A0_4 l0_4.length c0_4]) (t := 24) ?hr ?_; (case hd => rfl); (case hg => rfl); (case hr => first | (go_simp; done) | (go_simp; rfl)); intro gb397 hg w6 hbox hb; have n0_ := Aside0.mk (below_step (by repeat (first | (with_reducible first | exact HB.out | apply below_alloc | apply pw_below_drewN | apply below_drew1) | exact HB.out)) hb); have n1_ := Aside0.mk (hbox); have n2_ := Aside0.mk ((by rw [hg]; exact (below_size (by repeat (first | (with_reducible first | exact HB.out | apply below_alloc | apply pw_below_drewN | apply below_drew1) | exact HB.out))) : w.heap.size ≤ gb397)); have n3_ := Aside0.mk ((by rw [hg]; exact (below_size (by repeat (first | (with_reducible first | exact HB.out | apply below_alloc | apply pw_below_drewN | apply below_drew1) | exact HB.out))) : w.heap.size ≤ gb397)); clear HB; have HB := n0_; have BK397 := n1_; have GW397 := n2_; have GE397 := n3_; clear n0_ n1_ n2_ n3_; clear hb hbox hg) | ((with_reducible refine gate_callee (f := 10) rfl ?_); refine goesL_ (some 15) rfl rfl Try.func10 (by kernel_rfl) rfl #[] rfl (by (try simp only [List.map_toArray, List.map_cons, List.map_nil]); first | done | rfl | (simp only [List.length_drop, List.length_take]; rfl)) ?_; (with_reducible refine (phaetonlaw04_head.calls k  t398 _ A4.out).mono ?_); rintro e w7 ⟨rfl, hb⟩; refine ⟨_, rfl, ?_⟩; have n0_ := Aside0.mk (blk_below (g := gb397) (o := .cells #[.bool a0_0, .int .i64 a0_1, .bool a0_2, .int .i64 a0_3, .slice A0_4 l0_4.length c0_4] 24 (0, 0)) (by (with_reducible repeat (first | refine blk_drewN ?_ _ | refine blk_drew ?_ | refine blk_alloc ?_ _)); exact BK397.out) hb); have n1_ := Aside0.mk (below_step (by repeat (first | (with_reducible first | exact HB.out | apply below_alloc | apply pw_below_drewN | apply below_drew1 | refine below_set ?_ GE397.out) | exact HB.out)) hb); clear BK397; clear HB; have BK397 := n0_; have HB := n1_; clear n0_ n1_; (try clear hb); (try clear hb2); (try clear hk); (try clear hi)))
  (try simp only [Act.put, List.setIfInBounds_toArray, List.set_cons_zero, List.set_cons_succ])
  go_cut [32] (fun v32 wc => ∃ (kq : Nat) (x32_4 : Bool), v32 = .bool x32_4 ∧ Aside0 (phaetonlaw04_FrameBack.j0 kq l1 a2 t398 x32_4 a0_0 a0_1 a0_2 a0_3 l0_4 = some r) ∧ Aside0 (kq ≤ k) ∧ Aside0 (wc.heap[gb397]? = some (.cells #[.bool a0_0, .int .i64 a0_1, .bool a0_2, .int .i64 a0_3, (.slice A0_4 l0_4.length c0_4)] 24 (0, 0))) ∧ Aside0 (Below w.heap.size w wc))
  case first =>
    have H := HC5.out
    clear HC5
    replace H := Option.bind_eq_some_iff.mp H
    obtain ⟨t399, A80, H⟩ := H
    replace H : (if t399 = true then (phaetonlaw04_FrameBack.j0 k l1 a2 t398 true a0_0 a0_1 a0_2 a0_3 l0_4) else ((phaetonref04_Right.f k a0_0 a0_1 a0_2 a0_3 l0_4).bind fun t400 => (if t400 = true then (if (l1.length : Int) > 200 then (phaetonlaw04_FrameBack.j0 k l1 a2 t398 true a0_0 a0_1 a0_2 a0_3 l0_4) else ((phaetonref01_Right.f k l1).bind fun t401 => (phaetonlaw04_FrameBack.j0 k l1 a2 t398 (!t401) a0_0 a0_1 a0_2 a0_3 l0_4))) else (phaetonlaw04_FrameBack.j0 k l1 a2 t398 true a0_0 a0_1 a0_2 a0_3 l0_4)))) = some r := H
    have A8 := Aside0.mk A80
    clear A80
    by_cases c9 : t399 = true
    · subst c9
      have H1 : (phaetonlaw04_FrameBack.j0 k l1 a2 t398 true a0_0 a0_1 a0_2 a0_3 l0_4) = some r := by rw [if_pos rfl] at H; exact H
      clear H
      have H := H1
      clear H1
      have H' := Aside0.mk H
      clear H
      have hcz10_0 : w7.cell? ⟨gb397, 0, none⟩ = some (.bool a0_0) := (blk_cell BK397.out 0).trans rfl
      have hcz10_1 : w7.cell? ⟨gb397, 1, none⟩ = some (.int .i64 a0_1) := (blk_cell BK397.out 1).trans rfl
      have hcz10_2 : w7.cell? ⟨gb397, 2, none⟩ = some (.bool a0_2) := (blk_cell BK397.out 2).trans rfl
      have hcz10_3 : w7.cell? ⟨gb397, 3, none⟩ = some (.int .i64 a0_3) := (blk_cell BK397.out 3).trans rfl
      have hcz10_4 : w7.cell? ⟨gb397, 4, none⟩ = some (.slice A0_4 l0_4.length c0_4) := (blk_cell BK397.out 4).trans rfl
      have hfz10_0 := blk_frozen BK397.out 0
      have hfz10_1 := blk_frozen BK397.out 1
      have hfz10_2 := blk_frozen BK397.out 2
      have hfz10_3 := blk_frozen BK397.out 3
      have hfz10_4 := blk_frozen BK397.out 4
      go_wp2_with (first | ((with_reducible refine gate_store (t := 24) (p := 3) rfl ?_); refine HW.store_box rfl rfl 24 _ _ rfl rfl rfl BK397.out rfl (by kernel_rfl) (by intro q hq; simp only [List.mem_cons, List.not_mem_nil, or_false] at hq; rcases hq with rfl | rfl | rfl | rfl | rfl <;> rfl) ?_; intro w1_ hw1_; simp only [List.toList_toArray, World.setCells, Nat.zero_add, Nat.reduceAdd] at hw1_; subst hw1_) | ((with_reducible refine gate_callee (f := 11) rfl ?_); refine goesL_ (some 17) rfl rfl Try.func11 (by kernel_rfl) rfl #[.agg #[.bool a0_0, .int .i64 a0_1, .bool a0_2, .int .i64 a0_3, .slice A0_4 l0_4.length c0_4]] rfl (by (try simp only [List.map_toArray, List.map_cons, List.map_nil]); first | done | rfl | (simp only [List.length_drop, List.length_take]; rfl)) ?_; (with_reducible refine (phaetonlaw04_Great.calls a0_0 a0_1 a0_2 a0_3 _ _ l0_4 true _ ?side1 ?side2 A8.out).mono ?_); (case side1 => repeat (first | exact (Kd.C_below HR0_4.out HB.out) | (with_reducible refine Kd.C_alloc ?_ _) | (with_reducible refine Kd.C_drewN ?_ _) | (with_reducible refine Kd.C_drew ?_))); (case side2 => exact HC0_4.out); rintro e w11 ⟨rfl, hb⟩; refine ⟨_, rfl, ?_⟩; have n0_ := Aside0.mk (blk_below (g := gb397) (o := .cells #[.bool a0_0, .int .i64 a0_1, .bool a0_2, .int .i64 a0_3, .slice A0_4 l0_4.length c0_4] 24 (0, 0)) (by (with_reducible repeat (first | refine blk_drewN ?_ _ | refine blk_drew ?_ | refine blk_alloc ?_ _)); exact BK397.out) hb); have n1_ := Aside0.mk (below_step (by repeat (first | (with_reducible first | exact HB.out | apply below_alloc | apply pw_below_drewN | apply below_drew1 | refine below_set ?_ GE397.out) | exact HB.out)) hb); clear BK397; clear HB; have BK397 := n0_; have HB := n1_; clear n0_ n1_; (try clear hb); (try clear hb2); (try clear hk); (try clear hi)))
      go_meet
      case rel => exact ⟨_, (true), (by first | rfl | (simp; done) | (simp [*]; done)), H', ⟨by first | omega | exact Nat.le_refl _⟩, ⟨by (with_reducible repeat (first | refine blk_drewN ?_ _ | refine blk_drew ?_ | refine blk_alloc ?_ _)); exact BK397.out⟩, ⟨by repeat (first | (with_reducible first | exact HB.out | apply below_alloc | apply pw_below_drewN | apply below_drew1 | refine below_set ?_ GE397.out) | exact HB.out)⟩⟩
    · replace c9 := Bool.eq_false_iff.mpr c9
      subst c9
      have H1 : ((phaetonref04_Right.f k a0_0 a0_1 a0_2 a0_3 l0_4).bind fun t400 => (if t400 = true then (if (l1.length : Int) > 200 then (phaetonlaw04_FrameBack.j0 k l1 a2 t398 true a0_0 a0_1 a0_2 a0_3 l0_4) else ((phaetonref01_Right.f k l1).bind fun t401 => (phaetonlaw04_FrameBack.j0 k l1 a2 t398 (!t401) a0_0 a0_1 a0_2 a0_3 l0_4))) else (phaetonlaw04_FrameBack.j0 k l1 a2 t398 true a0_0 a0_1 a0_2 a0_3 l0_4))) = some r := by rw [if_neg (show ¬ (false = true) by decide)] at H; exact H
      clear H
      have H := H1
      clear H1
      replace H := Option.bind_eq_some_iff.mp H
      obtain ⟨t400, A120, H⟩ := H
      replace H : (if t400 = true then (if (l1.length : Int) > 200 then (phaetonlaw04_FrameBack.j0 k l1 a2 t398 true a0_0 a0_1 a0_2 a0_3 l0_4) else ((phaetonref01_Right.f k l1).bind fun t401 => (phaetonlaw04_FrameBack.j0 k l1 a2 t398 (!t401) a0_0 a0_1 a0_2 a0_3 l0_4))) else (phaetonlaw04_FrameBack.j0 k l1 a2 t398 true a0_0 a0_1 a0_2 a0_3 l0_4)) = some r := H
      have A12 := Aside0.mk A120
      clear A120
      by_cases c13 : t400 = true
      · subst c13
        have H1 : (if (l1.length : Int) > 200 then (phaetonlaw04_FrameBack.j0 k l1 a2 t398 true a0_0 a0_1 a0_2 a0_3 l0_4) else ((phaetonref01_Right.f k l1).bind fun t401 => (phaetonlaw04_FrameBack.j0 k l1 a2 t398 (!t401) a0_0 a0_1 a0_2 a0_3 l0_4))) = some r := by rw [if_pos rfl] at H; exact H
        clear H
        have H := H1
        clear H1
        by_cases c14 : (l1.length : Int) > 200
        · rw [if_pos c14] at H
          have c14b0 : decide (200 < (l1.length : Int)) = true := decide_eq_true c14
          have c14b1 : decide (200 < l1.length) = true := decide_eq_true (by omega)
          clear c14
          (first | rw [c14b0] | (simp only [i64_w, i32_w]; rw [c14b0]) | skip)
          have H' := Aside0.mk H
          clear H
          have hcz15_0 : w7.cell? ⟨gb397, 0, none⟩ = some (.bool a0_0) := (blk_cell BK397.out 0).trans rfl
          have hcz15_1 : w7.cell? ⟨gb397, 1, none⟩ = some (.int .i64 a0_1) := (blk_cell BK397.out 1).trans rfl
          have hcz15_2 : w7.cell? ⟨gb397, 2, none⟩ = some (.bool a0_2) := (blk_cell BK397.out 2).trans rfl
          have hcz15_3 : w7.cell? ⟨gb397, 3, none⟩ = some (.int .i64 a0_3) := (blk_cell BK397.out 3).trans rfl
          have hcz15_4 : w7.cell? ⟨gb397, 4, none⟩ = some (.slice A0_4 l0_4.length c0_4) := (blk_cell BK397.out 4).trans rfl
          have hfz15_0 := blk_frozen BK397.out 0
          have hfz15_1 := blk_frozen BK397.out 1
          have hfz15_2 := blk_frozen BK397.out 2
          have hfz15_3 := blk_frozen BK397.out 3
          have hfz15_4 := blk_frozen BK397.out 4
          go_wp2_with (first | ((with_reducible refine gate_store (t := 24) (p := 3) rfl ?_); refine HW.store_box rfl rfl 24 _ _ rfl rfl rfl BK397.out rfl (by kernel_rfl) (by intro q hq; simp only [List.mem_cons, List.not_mem_nil, or_false] at hq; rcases hq with rfl | rfl | rfl | rfl | rfl <;> rfl) ?_; intro w1_ hw1_; simp only [List.toList_toArray, World.setCells, Nat.zero_add, Nat.reduceAdd] at hw1_; subst hw1_) | ((with_reducible refine gate_callee (f := 11) rfl ?_); refine goesL_ (some 17) rfl rfl Try.func11 (by kernel_rfl) rfl #[.agg #[.bool a0_0, .int .i64 a0_1, .bool a0_2, .int .i64 a0_3, .slice A0_4 l0_4.length c0_4]] rfl (by (try simp only [List.map_toArray, List.map_cons, List.map_nil]); first | done | rfl | (simp only [List.length_drop, List.length_take]; rfl)) ?_; (with_reducible refine (phaetonlaw04_Great.calls a0_0 a0_1 a0_2 a0_3 _ _ l0_4 false _ ?side1 ?side2 A8.out).mono ?_); (case side1 => repeat (first | exact (Kd.C_below HR0_4.out HB.out) | (with_reducible refine Kd.C_alloc ?_ _) | (with_reducible refine Kd.C_drewN ?_ _) | (with_reducible refine Kd.C_drew ?_))); (case side2 => exact HC0_4.out); rintro e w16 ⟨rfl, hb⟩; refine ⟨_, rfl, ?_⟩; have n0_ := Aside0.mk (blk_below (g := gb397) (o := .cells #[.bool a0_0, .int .i64 a0_1, .bool a0_2, .int .i64 a0_3, .slice A0_4 l0_4.length c0_4] 24 (0, 0)) (by (with_reducible repeat (first | refine blk_drewN ?_ _ | refine blk_drew ?_ | refine blk_alloc ?_ _)); exact BK397.out) hb); have n1_ := Aside0.mk (below_step (by repeat (first | (with_reducible first | exact HB.out | apply below_alloc | apply pw_below_drewN | apply below_drew1 | refine below_set ?_ GE397.out) | exact HB.out)) hb); clear BK397; clear HB; have BK397 := n0_; have HB := n1_; clear n0_ n1_; (try clear hb); (try clear hb2); (try clear hk); (try clear hi); have hcz17_0 : w16.cell? ⟨gb397, 0, none⟩ = some (.bool a0_0) := (blk_cell BK397.out 0).trans rfl; have hcz17_1 : w16.cell? ⟨gb397, 1, none⟩ = some (.int .i64 a0_1) := (blk_cell BK397.out 1).trans rfl; have hcz17_2 : w16.cell? ⟨gb397, 2, none⟩ = some (.bool a0_2) := (blk_cell BK397.out 2).trans rfl; have hcz17_3 : w16.cell? ⟨gb397, 3, none⟩ = some (.int .i64 a0_3) := (blk_cell BK397.out 3).trans rfl; have hcz17_4 : w16.cell? ⟨gb397, 4, none⟩ = some (.slice A0_4 l0_4.length c0_4) := (blk_cell BK397.out 4).trans rfl; have hfz17_0 := blk_frozen BK397.out 0; have hfz17_1 := blk_frozen BK397.out 1; have hfz17_2 := blk_frozen BK397.out 2; have hfz17_3 := blk_frozen BK397.out 3; have hfz17_4 := blk_frozen BK397.out 4) | (go_at_call 13; (with_reducible refine (phaetonref04_Right.calls k a0_0 a0_1 a0_2 a0_3 _ _ l0_4 true _ ?side1 ?side2 A12.out).mono ?_); (case side1 => repeat (first | exact (Kd.C_below HR0_4.out HB.out) | (with_reducible refine Kd.C_alloc ?_ _) | (with_reducible refine Kd.C_drewN ?_ _) | (with_reducible refine Kd.C_drew ?_))); (case side2 => exact HC0_4.out); rintro e w18 ⟨rfl, hb⟩; have n0_ := Aside0.mk (blk_below (g := gb397) (o := .cells #[.bool a0_0, .int .i64 a0_1, .bool a0_2, .int .i64 a0_3, .slice A0_4 l0_4.length c0_4] 24 (0, 0)) (by (with_reducible repeat (first | refine blk_drewN ?_ _ | refine blk_drew ?_ | refine blk_alloc ?_ _)); exact BK397.out) hb); have n1_ := Aside0.mk (below_step (by repeat (first | (with_reducible first | exact HB.out | apply below_alloc | apply pw_below_drewN | apply below_drew1 | refine below_set ?_ GE397.out) | exact HB.out)) hb); clear BK397; clear HB; have BK397 := n0_; have HB := n1_; clear n0_ n1_; (try clear hb); (try clear hb2); (try clear hk); (try clear hi)))
          go_meet
          case rel => exact ⟨_, (true), (by first | rfl | (simp; done) | (simp [*]; done)), H', ⟨by first | omega | exact Nat.le_refl _⟩, ⟨by (with_reducible repeat (first | refine blk_drewN ?_ _ | refine blk_drew ?_ | refine blk_alloc ?_ _)); exact BK397.out⟩, ⟨by repeat (first | (with_reducible first | exact HB.out | apply below_alloc | apply pw_below_drewN | apply below_drew1 | refine below_set ?_ GE397.out) | exact HB.out)⟩⟩
        · rw [if_neg c14] at H
          have c14b0 : decide (200 < (l1.length : Int)) = false := decide_eq_false c14
          have c14b1 : decide (200 < l1.length) = false := decide_eq_false (by omega)
          clear c14
          (first | rw [c14b0] | (simp only [i64_w, i32_w]; rw [c14b0]) | skip)
          replace H := Option.bind_eq_some_iff.mp H
          obtain ⟨t401, A190, H⟩ := H
          replace H : (phaetonlaw04_FrameBack.j0 k l1 a2 t398 (!t401) a0_0 a0_1 a0_2 a0_3 l0_4) = some r := H
          have A19 := Aside0.mk A190
          clear A190
          have H' := Aside0.mk H
          clear H
          have hcz20_0 : w7.cell? ⟨gb397, 0, none⟩ = some (.bool a0_0) := (blk_cell BK397.out 0).trans rfl
          have hcz20_1 : w7.cell? ⟨gb397, 1, none⟩ = some (.int .i64 a0_1) := (blk_cell BK397.out 1).trans rfl
          have hcz20_2 : w7.cell? ⟨gb397, 2, none⟩ = some (.bool a0_2) := (blk_cell BK397.out 2).trans rfl
          have hcz20_3 : w7.cell? ⟨gb397, 3, none⟩ = some (.int .i64 a0_3) := (blk_cell BK397.out 3).trans rfl
          have hcz20_4 : w7.cell? ⟨gb397, 4, none⟩ = some (.slice A0_4 l0_4.length c0_4) := (blk_cell BK397.out 4).trans rfl
          have hfz20_0 := blk_frozen BK397.out 0
          have hfz20_1 := blk_frozen BK397.out 1
          have hfz20_2 := blk_frozen BK397.out 2
          have hfz20_3 := blk_frozen BK397.out 3
          have hfz20_4 := blk_frozen BK397.out 4
          go_wp2_with (first | ((with_reducible refine gate_store (t := 24) (p := 3) rfl ?_); refine HW.store_box rfl rfl 24 _ _ rfl rfl rfl BK397.out rfl (by kernel_rfl) (by intro q hq; simp only [List.mem_cons, List.not_mem_nil, or_false] at hq; rcases hq with rfl | rfl | rfl | rfl | rfl <;> rfl) ?_; intro w1_ hw1_; simp only [List.toList_toArray, World.setCells, Nat.zero_add, Nat.reduceAdd] at hw1_; subst hw1_) | ((with_reducible refine gate_callee (f := 11) rfl ?_); refine goesL_ (some 17) rfl rfl Try.func11 (by kernel_rfl) rfl #[.agg #[.bool a0_0, .int .i64 a0_1, .bool a0_2, .int .i64 a0_3, .slice A0_4 l0_4.length c0_4]] rfl (by (try simp only [List.map_toArray, List.map_cons, List.map_nil]); first | done | rfl | (simp only [List.length_drop, List.length_take]; rfl)) ?_; (with_reducible refine (phaetonlaw04_Great.calls a0_0 a0_1 a0_2 a0_3 _ _ l0_4 false _ ?side1 ?side2 A8.out).mono ?_); (case side1 => repeat (first | exact (Kd.C_below HR0_4.out HB.out) | (with_reducible refine Kd.C_alloc ?_ _) | (with_reducible refine Kd.C_drewN ?_ _) | (with_reducible refine Kd.C_drew ?_))); (case side2 => exact HC0_4.out); rintro e w21 ⟨rfl, hb⟩; refine ⟨_, rfl, ?_⟩; have n0_ := Aside0.mk (blk_below (g := gb397) (o := .cells #[.bool a0_0, .int .i64 a0_1, .bool a0_2, .int .i64 a0_3, .slice A0_4 l0_4.length c0_4] 24 (0, 0)) (by (with_reducible repeat (first | refine blk_drewN ?_ _ | refine blk_drew ?_ | refine blk_alloc ?_ _)); exact BK397.out) hb); have n1_ := Aside0.mk (below_step (by repeat (first | (with_reducible first | exact HB.out | apply below_alloc | apply pw_below_drewN | apply below_drew1 | refine below_set ?_ GE397.out) | exact HB.out)) hb); clear BK397; clear HB; have BK397 := n0_; have HB := n1_; clear n0_ n1_; (try clear hb); (try clear hb2); (try clear hk); (try clear hi); have hcz22_0 : w21.cell? ⟨gb397, 0, none⟩ = some (.bool a0_0) := (blk_cell BK397.out 0).trans rfl; have hcz22_1 : w21.cell? ⟨gb397, 1, none⟩ = some (.int .i64 a0_1) := (blk_cell BK397.out 1).trans rfl; have hcz22_2 : w21.cell? ⟨gb397, 2, none⟩ = some (.bool a0_2) := (blk_cell BK397.out 2).trans rfl; have hcz22_3 : w21.cell? ⟨gb397, 3, none⟩ = some (.int .i64 a0_3) := (blk_cell BK397.out 3).trans rfl; have hcz22_4 : w21.cell? ⟨gb397, 4, none⟩ = some (.slice A0_4 l0_4.length c0_4) := (blk_cell BK397.out 4).trans rfl; have hfz22_0 := blk_frozen BK397.out 0; have hfz22_1 := blk_frozen BK397.out 1; have hfz22_2 := blk_frozen BK397.out 2; have hfz22_3 := blk_frozen BK397.out 3; have hfz22_4 := blk_frozen BK397.out 4) | (go_at_call 13; (with_reducible refine (phaetonref04_Right.calls k a0_0 a0_1 a0_2 a0_3 _ _ l0_4 true _ ?side1 ?side2 A12.out).mono ?_); (case side1 => repeat (first | exact (Kd.C_below HR0_4.out HB.out) | (with_reducible refine Kd.C_alloc ?_ _) | (with_reducible refine Kd.C_drewN ?_ _) | (with_reducible refine Kd.C_drew ?_))); (case side2 => exact HC0_4.out); rintro e w23 ⟨rfl, hb⟩; have n0_ := Aside0.mk (blk_below (g := gb397) (o := .cells #[.bool a0_0, .int .i64 a0_1, .bool a0_2, .int .i64 a0_3, .slice A0_4 l0_4.length c0_4] 24 (0, 0)) (by (with_reducible repeat (first | refine blk_drewN ?_ _ | refine blk_drew ?_ | refine blk_alloc ?_ _)); exact BK397.out) hb); have n1_ := Aside0.mk (below_step (by repeat (first | (with_reducible first | exact HB.out | apply below_alloc | apply pw_below_drewN | apply below_drew1 | refine below_set ?_ GE397.out) | exact HB.out)) hb); clear BK397; clear HB; have BK397 := n0_; have HB := n1_; clear n0_ n1_; (try clear hb); (try clear hb2); (try clear hk); (try clear hi)) | (go_at_call 21; (with_reducible refine (phaetonref01_Right.calls k _ _ l1 t401 _ ?side1 ?side2 A19.out).mono ?_); (case side1 => repeat (first | exact (Kd.C_below HR1.out HB.out) | (with_reducible refine Kd.C_alloc ?_ _) | (with_reducible refine Kd.C_drewN ?_ _) | (with_reducible refine Kd.C_drew ?_))); (case side2 => exact HC1.out); rintro e w' ⟨rfl, ⟨nd, rfl⟩⟩))
          go_meet
          case rel => exact ⟨_, (!t401), (by first | rfl | (simp; done) | (simp [*]; done)), H', ⟨by first | omega | exact Nat.le_refl _⟩, ⟨by (with_reducible repeat (first | refine blk_drewN ?_ _ | refine blk_drew ?_ | refine blk_alloc ?_ _)); exact BK397.out⟩, ⟨by repeat (first | (with_reducible first | exact HB.out | apply below_alloc | apply pw_below_drewN | apply below_drew1 | refine below_set ?_ GE397.out) | exact HB.out)⟩⟩
      · replace c13 := Bool.eq_false_iff.mpr c13
        subst c13
        have H1 : (phaetonlaw04_FrameBack.j0 k l1 a2 t398 true a0_0 a0_1 a0_2 a0_3 l0_4) = some r := by rw [if_neg (show ¬ (false = true) by decide)] at H; exact H
        clear H
        have H := H1
        clear H1
        have H' := Aside0.mk H
        clear H
        have hcz24_0 : w7.cell? ⟨gb397, 0, none⟩ = some (.bool a0_0) := (blk_cell BK397.out 0).trans rfl
        have hcz24_1 : w7.cell? ⟨gb397, 1, none⟩ = some (.int .i64 a0_1) := (blk_cell BK397.out 1).trans rfl
        have hcz24_2 : w7.cell? ⟨gb397, 2, none⟩ = some (.bool a0_2) := (blk_cell BK397.out 2).trans rfl
        have hcz24_3 : w7.cell? ⟨gb397, 3, none⟩ = some (.int .i64 a0_3) := (blk_cell BK397.out 3).trans rfl
        have hcz24_4 : w7.cell? ⟨gb397, 4, none⟩ = some (.slice A0_4 l0_4.length c0_4) := (blk_cell BK397.out 4).trans rfl
        have hfz24_0 := blk_frozen BK397.out 0
        have hfz24_1 := blk_frozen BK397.out 1
        have hfz24_2 := blk_frozen BK397.out 2
        have hfz24_3 := blk_frozen BK397.out 3
        have hfz24_4 := blk_frozen BK397.out 4
        go_wp2_with (first | ((with_reducible refine gate_store (t := 24) (p := 3) rfl ?_); refine HW.store_box rfl rfl 24 _ _ rfl rfl rfl BK397.out rfl (by kernel_rfl) (by intro q hq; simp only [List.mem_cons, List.not_mem_nil, or_false] at hq; rcases hq with rfl | rfl | rfl | rfl | rfl <;> rfl) ?_; intro w1_ hw1_; simp only [List.toList_toArray, World.setCells, Nat.zero_add, Nat.reduceAdd] at hw1_; subst hw1_) | ((with_reducible refine gate_callee (f := 11) rfl ?_); refine goesL_ (some 17) rfl rfl Try.func11 (by kernel_rfl) rfl #[.agg #[.bool a0_0, .int .i64 a0_1, .bool a0_2, .int .i64 a0_3, .slice A0_4 l0_4.length c0_4]] rfl (by (try simp only [List.map_toArray, List.map_cons, List.map_nil]); first | done | rfl | (simp only [List.length_drop, List.length_take]; rfl)) ?_; (with_reducible refine (phaetonlaw04_Great.calls a0_0 a0_1 a0_2 a0_3 _ _ l0_4 false _ ?side1 ?side2 A8.out).mono ?_); (case side1 => repeat (first | exact (Kd.C_below HR0_4.out HB.out) | (with_reducible refine Kd.C_alloc ?_ _) | (with_reducible refine Kd.C_drewN ?_ _) | (with_reducible refine Kd.C_drew ?_))); (case side2 => exact HC0_4.out); rintro e w25 ⟨rfl, hb⟩; refine ⟨_, rfl, ?_⟩; have n0_ := Aside0.mk (blk_below (g := gb397) (o := .cells #[.bool a0_0, .int .i64 a0_1, .bool a0_2, .int .i64 a0_3, .slice A0_4 l0_4.length c0_4] 24 (0, 0)) (by (with_reducible repeat (first | refine blk_drewN ?_ _ | refine blk_drew ?_ | refine blk_alloc ?_ _)); exact BK397.out) hb); have n1_ := Aside0.mk (below_step (by repeat (first | (with_reducible first | exact HB.out | apply below_alloc | apply pw_below_drewN | apply below_drew1 | refine below_set ?_ GE397.out) | exact HB.out)) hb); clear BK397; clear HB; have BK397 := n0_; have HB := n1_; clear n0_ n1_; (try clear hb); (try clear hb2); (try clear hk); (try clear hi); have hcz26_0 : w25.cell? ⟨gb397, 0, none⟩ = some (.bool a0_0) := (blk_cell BK397.out 0).trans rfl; have hcz26_1 : w25.cell? ⟨gb397, 1, none⟩ = some (.int .i64 a0_1) := (blk_cell BK397.out 1).trans rfl; have hcz26_2 : w25.cell? ⟨gb397, 2, none⟩ = some (.bool a0_2) := (blk_cell BK397.out 2).trans rfl; have hcz26_3 : w25.cell? ⟨gb397, 3, none⟩ = some (.int .i64 a0_3) := (blk_cell BK397.out 3).trans rfl; have hcz26_4 : w25.cell? ⟨gb397, 4, none⟩ = some (.slice A0_4 l0_4.length c0_4) := (blk_cell BK397.out 4).trans rfl; have hfz26_0 := blk_frozen BK397.out 0; have hfz26_1 := blk_frozen BK397.out 1; have hfz26_2 := blk_frozen BK397.out 2; have hfz26_3 := blk_frozen BK397.out 3; have hfz26_4 := blk_frozen BK397.out 4) | (go_at_call 13; (with_reducible refine (phaetonref04_Right.calls k a0_0 a0_1 a0_2 a0_3 _ _ l0_4 false _ ?side1 ?side2 A12.out).mono ?_); (case side1 => repeat (first | exact (Kd.C_below HR0_4.out HB.out) | (with_reducible refine Kd.C_alloc ?_ _) | (with_reducible refine Kd.C_drewN ?_ _) | (with_reducible refine Kd.C_drew ?_))); (case side2 => exact HC0_4.out); rintro e w27 ⟨rfl, hb⟩; have n0_ := Aside0.mk (blk_below (g := gb397) (o := .cells #[.bool a0_0, .int .i64 a0_1, .bool a0_2, .int .i64 a0_3, .slice A0_4 l0_4.length c0_4] 24 (0, 0)) (by (with_reducible repeat (first | refine blk_drewN ?_ _ | refine blk_drew ?_ | refine blk_alloc ?_ _)); exact BK397.out) hb); have n1_ := Aside0.mk (below_step (by repeat (first | (with_reducible first | exact HB.out | apply below_alloc | apply pw_below_drewN | apply below_drew1 | refine below_set ?_ GE397.out) | exact HB.out)) hb); clear BK397; clear HB; have BK397 := n0_; have HB := n1_; clear n0_ n1_; (try clear hb); (try clear hb2); (try clear hk); (try clear hi)))
        go_meet
        case rel => exact ⟨_, (true), (by first | rfl | (simp; done) | (simp [*]; done)), H', ⟨by first | omega | exact Nat.le_refl _⟩, ⟨by (with_reducible repeat (first | refine blk_drewN ?_ _ | refine blk_drew ?_ | refine blk_alloc ?_ _)); exact BK397.out⟩, ⟨by repeat (first | (with_reducible first | exact HB.out | apply below_alloc | apply pw_below_drewN | apply below_drew1 | refine below_set ?_ GE397.out) | exact HB.out)⟩⟩
  case rest =>
    clear HC5
    try clear c1
    try clear p2
    try clear c4
    try clear c9
    try clear c10
    try clear c11
    try clear c13
    try clear c14
    try clear c14b0
    try clear c14b1
    try clear hcz10_0
    try clear hcz10_1
    try clear hcz10_2
    try clear hcz10_3
    try clear hcz10_4
    try clear hcz15_0
    try clear hcz15_1
    try clear hcz15_2
    try clear hcz15_3
    try clear hcz15_4
    try clear hcz17_0
    try clear hcz17_1
    try clear hcz17_2
    try clear hcz17_3
    try clear hcz17_4
    try clear hcz20_0
    try clear hcz20_1
    try clear hcz20_2
    try clear hcz20_3
    try clear hcz20_4
    try clear hcz22_0
    try clear hcz22_1
    try clear hcz22_2
    try clear hcz22_3
    try clear hcz22_4
    try clear hcz24_0
    try clear hcz24_1
    try clear hcz24_2
    try clear hcz24_3
    try clear hcz24_4
    try clear hcz26_0
    try clear hcz26_1
    try clear hcz26_2
    try clear hcz26_3
    try clear hcz26_4
    try clear hfz10_0
    try clear hfz10_1
    try clear hfz10_2
    try clear hfz10_3
    try clear hfz10_4
    try clear hfz15_0
    try clear hfz15_1
    try clear hfz15_2
    try clear hfz15_3
    try clear hfz15_4
    try clear hfz17_0
    try clear hfz17_1
    try clear hfz17_2
    try clear hfz17_3
    try clear hfz17_4
    try clear hfz20_0
    try clear hfz20_1
    try clear hfz20_2
    try clear hfz20_3
    try clear hfz20_4
    try clear hfz22_0
    try clear hfz22_1
    try clear hfz22_2
    try clear hfz22_3
    try clear hfz22_4
    try clear hfz24_0
    try clear hfz24_1
    try clear hfz24_2
    try clear hfz24_3
    try clear hfz24_4
    try clear hfz26_0
    try clear hfz26_1
    try clear hfz26_2
    try clear hfz26_3
    try clear hfz26_4
    obtain ⟨kq, x32_4, rfl, HA, HJ4, BK397, HB⟩ := hcut
    cases kq with
    | zero => exact absurd HA.out (by simp [phaetonlaw04_FrameBack.j0])
    | succ kj4 =>
      have H := HA.out
      clear HA
      simp only [phaetonlaw04_FrameBack.j0] at H
      by_cases c28 : x32_4 = true
      · subst c28
        have H1 : (if t398 = true then (some true) else (none)) = some r := by rw [if_pos rfl] at H; exact H
        clear H
        have H := H1
        clear H1
        by_cases c29 : t398 = true
        · subst c29
          have H1 : (some true) = some r := by rw [if_pos rfl] at H; exact H
          clear H
          have H := H1
          clear H1
          obtain rfl := Option.some.inj H
          go_wp2
          go_ret
          exact ⟨by first | rfl | (simp [errW_none, errW_some] <;> rfl) | (simp [*, errW_none, errW_some] <;> rfl), by repeat (first | (with_reducible first | exact HB.out | apply below_alloc | apply pw_below_drewN | apply below_drew1 | refine below_set ?_ GE397.out) | exact HB.out)⟩
        · replace c29 := Bool.eq_false_iff.mpr c29
          subst c29
          have H1 : (none) = some r := by rw [if_neg (show ¬ (false = true) by decide)] at H; exact H
          clear H
          have H := H1
          clear H1
          exact absurd H (by simp)
      · replace c28 := Bool.eq_false_iff.mpr c28
        subst c28
        have H1 : ((frame_Head.f a0_0 a0_1 a0_2 a0_3 l0_4).bind fun t402 => ((some (([] : List Int) : List Int)).bind fun y405 => (if y405.length + t402.length < 17592186044416 then ((some (y405 ++ t402 : List Int)).bind fun y408 => (if y408.length + l1.length < 17592186044416 then ((frame_Read.f (y408 ++ l1)).bind fun bt414 => (if (t402.length : Int) = 0 then (phaetonlaw04_FrameBack.j1 kj4 a2 t398 t402 true) else ((phaetonref04_Same.f a0_0 a0_1 a0_2 a0_3 l0_4 bt414.1 bt414.2.1 bt414.2.2.1 bt414.2.2.2.1 bt414.2.2.2.2.1).bind fun t424 => (if t424 = true then (if bt414.2.2.2.2.2.1 = (t402.length : Int) then (if bt414.2.2.2.2.2.2 = 0 then ((phaetonref01_Right.f kj4 t402).bind fun t425 => (phaetonlaw04_FrameBack.j1 kj4 a2 t398 t402 (!t425))) else (phaetonlaw04_FrameBack.j1 kj4 a2 t398 t402 true)) else (phaetonlaw04_FrameBack.j1 kj4 a2 t398 t402 true)) else (phaetonlaw04_FrameBack.j1 kj4 a2 t398 t402 true))))) else (none))) else (none)))) = some r := by rw [if_neg (show ¬ (false = true) by decide)] at H; exact H
        clear H
        have H := H1
        clear H1
        replace H := Option.bind_eq_some_iff.mp H
        obtain ⟨t402, A300, H⟩ := H
        replace H : ((some (([] : List Int) : List Int)).bind fun y405 => (if y405.length + t402.length < 17592186044416 then ((some (y405 ++ t402 : List Int)).bind fun y408 => (if y408.length + l1.length < 17592186044416 then ((frame_Read.f (y408 ++ l1)).bind fun bt414 => (if (t402.length : Int) = 0 then (phaetonlaw04_FrameBack.j1 kj4 a2 t398 t402 true) else ((phaetonref04_Same.f a0_0 a0_1 a0_2 a0_3 l0_4 bt414.1 bt414.2.1 bt414.2.2.1 bt414.2.2.2.1 bt414.2.2.2.2.1).bind fun t424 => (if t424 = true then (if bt414.2.2.2.2.2.1 = (t402.length : Int) then (if bt414.2.2.2.2.2.2 = 0 then ((phaetonref01_Right.f kj4 t402).bind fun t425 => (phaetonlaw04_FrameBack.j1 kj4 a2 t398 t402 (!t425))) else (phaetonlaw04_FrameBack.j1 kj4 a2 t398 t402 true)) else (phaetonlaw04_FrameBack.j1 kj4 a2 t398 t402 true)) else (phaetonlaw04_FrameBack.j1 kj4 a2 t398 t402 true))))) else (none))) else (none))) = some r := H
        have A30 := Aside0.mk A300
        clear A300
        obtain ⟨y405, hy405⟩ : ∃ y_ : List Int, y_ = (([] : List Int)) := ⟨_, rfl⟩
        replace H : (if y405.length + t402.length < 17592186044416 then ((some (y405 ++ t402 : List Int)).bind fun y408 => (if y408.length + l1.length < 17592186044416 then ((frame_Read.f (y408 ++ l1)).bind fun bt414 => (if (t402.length : Int) = 0 then (phaetonlaw04_FrameBack.j1 kj4 a2 t398 t402 true) else ((phaetonref04_Same.f a0_0 a0_1 a0_2 a0_3 l0_4 bt414.1 bt414.2.1 bt414.2.2.1 bt414.2.2.2.1 bt414.2.2.2.2.1).bind fun t424 => (if t424 = true then (if bt414.2.2.2.2.2.1 = (t402.length : Int) then (if bt414.2.2.2.2.2.2 = 0 then ((phaetonref01_Right.f kj4 t402).bind fun t425 => (phaetonlaw04_FrameBack.j1 kj4 a2 t398 t402 (!t425))) else (phaetonlaw04_FrameBack.j1 kj4 a2 t398 t402 true)) else (phaetonlaw04_FrameBack.j1 kj4 a2 t398 t402 true)) else (phaetonlaw04_FrameBack.j1 kj4 a2 t398 t402 true))))) else (none))) else (none)) = some r := by first | (rw [hy405]; with_reducible exact H) | (have H2_ := (Option.bind_some _ _).symm.trans H; rw [hy405]; with_reducible exact H2_) | (have H2_ := (Option.bind_some _ _).symm.trans H; with_reducible exact H2_) | with_reducible exact H | (rw [hy405]; exact H) | exact H
        have Ny405 := Aside0.mk hy405
        clear hy405
        by_cases c31 : y405.length + t402.length < 17592186044416
        · rw [if_pos c31] at H
          have LMc31 := Aside0.mk c31
          clear c31
          obtain ⟨y408, hy408⟩ : ∃ y_ : List Int, y_ = (y405 ++ t402) := ⟨_, rfl⟩
          replace H : (if y408.length + l1.length < 17592186044416 then ((frame_Read.f (y408 ++ l1)).bind fun bt414 => (if (t402.length : Int) = 0 then (phaetonlaw04_FrameBack.j1 kj4 a2 t398 t402 true) else ((phaetonref04_Same.f a0_0 a0_1 a0_2 a0_3 l0_4 bt414.1 bt414.2.1 bt414.2.2.1 bt414.2.2.2.1 bt414.2.2.2.2.1).bind fun t424 => (if t424 = true then (if bt414.2.2.2.2.2.1 = (t402.length : Int) then (if bt414.2.2.2.2.2.2 = 0 then ((phaetonref01_Right.f kj4 t402).bind fun t425 => (phaetonlaw04_FrameBack.j1 kj4 a2 t398 t402 (!t425))) else (phaetonlaw04_FrameBack.j1 kj4 a2 t398 t402 true)) else (phaetonlaw04_FrameBack.j1 kj4 a2 t398 t402 true)) else (phaetonlaw04_FrameBack.j1 kj4 a2 t398 t402 true))))) else (none)) = some r := by first | (rw [hy408]; with_reducible exact H) | (have H2_ := (Option.bind_some _ _).symm.trans H; rw [hy408]; with_reducible exact H2_) | (have H2_ := (Option.bind_some _ _).symm.trans H; with_reducible exact H2_) | with_reducible exact H | (rw [hy408]; exact H) | exact H
          have Ny408 := Aside0.mk hy408
          clear hy408
          by_cases c32 : y408.length + l1.length < 17592186044416
          · rw [if_pos c32] at H
            have LMc32 := Aside0.mk c32
            clear c32
            obtain ⟨y411, hy411⟩ : ∃ y_ : List Int, y_ = (y408 ++ l1) := ⟨_, rfl⟩
            replace H : ((frame_Read.f y411).bind fun bt414 => (if (t402.length : Int) = 0 then (phaetonlaw04_FrameBack.j1 kj4 a2 t398 t402 true) else ((phaetonref04_Same.f a0_0 a0_1 a0_2 a0_3 l0_4 bt414.1 bt414.2.1 bt414.2.2.1 bt414.2.2.2.1 bt414.2.2.2.2.1).bind fun t424 => (if t424 = true then (if bt414.2.2.2.2.2.1 = (t402.length : Int) then (if bt414.2.2.2.2.2.2 = 0 then ((phaetonref01_Right.f kj4 t402).bind fun t425 => (phaetonlaw04_FrameBack.j1 kj4 a2 t398 t402 (!t425))) else (phaetonlaw04_FrameBack.j1 kj4 a2 t398 t402 true)) else (phaetonlaw04_FrameBack.j1 kj4 a2 t398 t402 true)) else (phaetonlaw04_FrameBack.j1 kj4 a2 t398 t402 true))))) = some r := by first | (rw [hy411]; with_reducible exact H) | (have H2_ := (Option.bind_some _ _).symm.trans H; rw [hy411]; with_reducible exact H2_) | (have H2_ := (Option.bind_some _ _).symm.trans H; with_reducible exact H2_) | with_reducible exact H | (rw [hy411]; exact H) | exact H
            have Ny411 := Aside0.mk hy411
            clear hy411
            replace H := Option.bind_eq_some_iff.mp H
            obtain ⟨⟨t414, t415, t416, t417, t418, t421, t422⟩, A330, H⟩ := H
            replace H : (if (t402.length : Int) = 0 then (phaetonlaw04_FrameBack.j1 kj4 a2 t398 t402 true) else ((phaetonref04_Same.f a0_0 a0_1 a0_2 a0_3 l0_4 t414 t415 t416 t417 t418).bind fun t424 => (if t424 = true then (if t421 = (t402.length : Int) then (if t422 = 0 then ((phaetonref01_Right.f kj4 t402).bind fun t425 => (phaetonlaw04_FrameBack.j1 kj4 a2 t398 t402 (!t425))) else (phaetonlaw04_FrameBack.j1 kj4 a2 t398 t402 true)) else (phaetonlaw04_FrameBack.j1 kj4 a2 t398 t402 true)) else (phaetonlaw04_FrameBack.j1 kj4 a2 t398 t402 true)))) = some r := H
            have A33 := Aside0.mk A330
            clear A330
            have HC34 := Aside0.mk H
            clear H
            have hcz35_0 : wc.cell? ⟨gb397, 0, none⟩ = some (.bool a0_0) := (blk_cell BK397.out 0).trans rfl
            have hcz35_1 : wc.cell? ⟨gb397, 1, none⟩ = some (.int .i64 a0_1) := (blk_cell BK397.out 1).trans rfl
            have hcz35_2 : wc.cell? ⟨gb397, 2, none⟩ = some (.bool a0_2) := (blk_cell BK397.out 2).trans rfl
            have hcz35_3 : wc.cell? ⟨gb397, 3, none⟩ = some (.int .i64 a0_3) := (blk_cell BK397.out 3).trans rfl
            have hcz35_4 : wc.cell? ⟨gb397, 4, none⟩ = some (.slice A0_4 l0_4.length c0_4) := (blk_cell BK397.out 4).trans rfl
            have hfz35_0 := blk_frozen BK397.out 0
            have hfz35_1 := blk_frozen BK397.out 1
            have hfz35_2 := blk_frozen BK397.out 2
            have hfz35_3 := blk_frozen BK397.out 3
            have hfz35_4 := blk_frozen BK397.out 4
            go_upto_region 6 with (first | ((with_reducible refine gate_callee (f := 17) rfl ?_); refine goesL_ (some 35) rfl rfl Try.func17 (by kernel_rfl) rfl #[.agg #[.bool a0_0, .int .i64 a0_1, .bool a0_2, .int .i64 a0_3, .slice A0_4 l0_4.length c0_4]] rfl (by (try simp only [List.map_toArray, List.map_cons, List.map_nil]); first | done | rfl | (simp only [List.length_drop, List.length_take]; rfl)) ?_; (with_reducible refine (frame_Head.calls a0_0 a0_1 a0_2 a0_3 _ _ l0_4 t402 _ ?side1 ?side2 A30.out).mono ?_); (case side1 => repeat (first | exact (Kd.C_below HR0_4.out HB.out) | (with_reducible refine Kd.C_alloc ?_ _) | (with_reducible refine Kd.C_drewN ?_ _) | (with_reducible refine Kd.C_drew ?_))); (case side2 => exact HC0_4.out); rintro e w36 ⟨v403, rfl, ho0, hb⟩; refine ⟨_, rfl, ?_⟩; have n0_ := Aside0.mk (Kd.R_lower ho0 (below_size (by repeat (first | (with_reducible first | exact HB.out | apply below_alloc | apply pw_below_drewN | apply below_drew1 | refine below_set ?_ GE397.out) | exact HB.out)))); have n1_ := Aside0.mk (blk_below (g := gb397) (o := .cells #[.bool a0_0, .int .i64 a0_1, .bool a0_2, .int .i64 a0_3, .slice A0_4 l0_4.length c0_4] 24 (0, 0)) (by (with_reducible repeat (first | refine blk_drewN ?_ _ | refine blk_drew ?_ | refine blk_alloc ?_ _)); exact BK397.out) hb); have n2_ := Aside0.mk (below_step (by repeat (first | (with_reducible first | exact HB.out | apply below_alloc | apply pw_below_drewN | apply below_drew1 | refine below_set ?_ GE397.out) | exact HB.out)) hb); clear BK397; clear HB; have HO404 := n0_; have BK397 := n1_; have HB := n2_; clear n0_ n1_ n2_; (try clear hb); (try clear hb2); (try clear hk); (try clear hi); (try clear ho0)) | ((with_reducible refine gate_dst (N := 37) rfl ?_); (try (refine gate_guard (by rfl) ?_; dsimp only)); refine Kd.R_lit (Kd.int .i64) _ 3 ?hg (N := 37) ?hd (xs := ([] : List Int)) (inner := []) (ok := fun _ => True) (okp := fun _ => True) ?hr ?hp (fun _ hk => hk) trivial (Below.refl _ _) (Nat.le_refl _) (by simp) ?_; (case hd => rfl); (case hg => rfl); (case hr => first | (go_simp; done) | (go_simp; rfl)); (case hp => exact (Reps.none _ _)); intro v406 w37 ho38 hb hg_ hnew_; clear hg_ hnew_; (first | rw [← Ny405.out] at ho38 | (simp only [Int.reduceToNat] at ho38; rw [← Ny405.out] at ho38)); have n0_ := Aside0.mk (Kd.R_elder' (by (with_reducible repeat (first | apply Kd.R_alloc | apply Kd.R_drewN | apply Kd.R_drew)); exact HO404.out) (Kd.R_base ho38) hb); have n1_ := Aside0.mk (Kd.R_lower (Kd.R_new' ho38 (Kd.R_lt (by (with_reducible repeat (first | apply Kd.R_alloc | apply Kd.R_drewN | apply Kd.R_drew)); exact HO404.out))) (below_size (by repeat (first | (with_reducible first | exact HB.out | apply below_alloc | apply pw_below_drewN | apply below_drew1 | refine below_set ?_ GE397.out) | exact HB.out)))); have n2_ := Aside0.mk (blk_below (g := gb397) (o := .cells #[.bool a0_0, .int .i64 a0_1, .bool a0_2, .int .i64 a0_3, .slice A0_4 l0_4.length c0_4] 24 (0, 0)) (by (with_reducible repeat (first | refine blk_drewN ?_ _ | refine blk_drew ?_ | refine blk_alloc ?_ _)); exact BK397.out) hb); have n3_ := Aside0.mk (below_step (by repeat (first | (with_reducible first | exact HB.out | apply below_alloc | apply pw_below_drewN | apply below_drew1 | refine below_set ?_ GE397.out) | exact HB.out)) hb); clear HO404; clear BK397; clear HB; have HO404 := n0_; have HO407 := n1_; have BK397 := n2_; have HB := n3_; clear n0_ n1_ n2_ n3_; clear hb ho38; obtain ⟨Ao40, co40, eo40⟩ := Kd.R_slice HO404.out; subst eo40) | ((with_reducible refine gate_builtin (b := .append) (xs := #[.tmp 37, .tmp 38]) rfl ?_); (try (refine gate_guard (by rfl) ?_; dsimp only)); at_builtin; refine Kd.R_append_rows (Kd.int .i64) (w0 := w) w.heap.size rfl (.tmp 37) (.tmp 38) 25 3 (.int .i64 0) 8 rfl Try.underlying25 info3 rfl (by decide) (by omega) v406 y405 t402 _ _ _ (fun k_ => some k_ ≠ (.slice Ao40 t402.length co40 : Value).ownBlock) (fun _ => False) rfl rfl ?aO ?aR (fun _ _ h => h) (fun _ h => h.elim) ?aF ?aB ?aS ?aL ?_; (case aR => repeat (first | exact (Kd.R_reads' HO404.out).2.2 | (with_reducible refine Kd.C_alloc ?_ _) | (with_reducible refine Kd.C_drewN ?_ _) | (with_reducible refine Kd.C_drew ?_))); (case aB => exact (by repeat (first | (with_reducible first | exact HB.out | apply below_alloc | apply pw_below_drewN | apply below_drew1 | refine below_set ?_ GE397.out) | exact HB.out))); (case aF => exact (fun k_ hk => Kd.fresh' (Kd.R_lt (by (with_reducible repeat (first | apply Kd.R_alloc | apply Kd.R_drewN | apply Kd.R_drew)); exact HO404.out)) k_ hk)); (case aO => exact (by (with_reducible repeat (first | apply Kd.R_alloc | apply Kd.R_drewN | apply Kd.R_drew)); exact Kd.R_mono HO407.out (fun _ hk => hk.2))); (case aS => exact (below_size (by repeat (first | (with_reducible first | exact HB.out | apply below_alloc | apply pw_below_drewN | apply below_drew1 | refine below_set ?_ GE397.out) | exact HB.out)))); (case aL => have := LMc31.out; omega); intro v409 w39 ho hb hg hat; rw [← Ny408.out] at ho; have n0_ := Aside0.mk (blk_grown (g := gb397) (o := .cells #[.bool a0_0, .int .i64 a0_1, .bool a0_2, .int .i64 a0_3, .slice A0_4 l0_4.length c0_4] 24 (0, 0)) (by (with_reducible repeat (first | refine blk_drewN ?_ _ | refine blk_drew ?_ | refine blk_alloc ?_ _)); exact BK397.out) hg (Kd.R_ne HO407.out BK397.out (by decide))); have n1_ := Aside0.mk (Kd.R_after (ok := (fun _ => True)) (by (with_reducible repeat (first | apply Kd.R_alloc | apply Kd.R_drewN | apply Kd.R_drew)); exact HO404.out) hg hat); have n2_ := Aside0.mk (hb); have n3_ := Aside0.mk (ho); clear BK397; clear HO404; clear HB; clear HO407; have BK397 := n0_; have HO404 := n1_; have HB := n2_; have HO410 := n3_; clear n0_ n1_ n2_ n3_; clear ho hb hg hat) | ((with_reducible refine gate_builtin (b := .append) (xs := #[.tmp 39, .tmp 40]) rfl ?_); (try (refine gate_guard (by rfl) ?_; dsimp only)); at_builtin; refine Kd.R_append_rows (Kd.int .i64) (w0 := w) w.heap.size rfl (.tmp 39) (.tmp 40) 25 3 (.int .i64 0) 8 rfl Try.underlying25 info3 rfl (by decide) (by omega) v409 y408 l1 _ _ _ (fun k_ => some k_ ≠ (.slice Ao40 t402.length co40 : Value).ownBlock) (fun _ => False) rfl rfl ?aO ?aR (fun _ _ h => h) (fun _ h => h.elim) ?aF ?aB ?aS ?aL ?_; (case aR => repeat (first | exact (Kd.C_below HR1.out HB.out) | (with_reducible refine Kd.C_alloc ?_ _) | (with_reducible refine Kd.C_drewN ?_ _) | (with_reducible refine Kd.C_drew ?_))); (case aB => exact (by repeat (first | (with_reducible first | exact HB.out | apply below_alloc | apply pw_below_drewN | apply below_drew1 | refine below_set ?_ GE397.out) | exact HB.out))); (case aF => exact (fun k_ hk => Kd.fresh' (Kd.R_lt (by (with_reducible repeat (first | apply Kd.R_alloc | apply Kd.R_drewN | apply Kd.R_drew)); exact HO404.out)) k_ hk)); (case aO => exact (by (with_reducible repeat (first | apply Kd.R_alloc | apply Kd.R_drewN | apply Kd.R_drew)); exact HO410.out)); (case aS => exact (below_size (by repeat (first | (with_reducible first | exact HB.out | apply below_alloc | apply pw_below_drewN | apply below_drew1 | refine below_set ?_ GE397.out) | exact HB.out)))); (case aL => have := LMc32.out; omega); intro v412 w41 ho hb hg hat; rw [← Ny411.out] at ho; have n0_ := Aside0.mk (blk_grown (g := gb397) (o := .cells #[.bool a0_0, .int .i64 a0_1, .bool a0_2, .int .i64 a0_3, .slice A0_4 l0_4.length c0_4] 24 (0, 0)) (by (with_reducible repeat (first | refine blk_drewN ?_ _ | refine blk_drew ?_ | refine blk_alloc ?_ _)); exact BK397.out) hg (Kd.R_ne HO410.out BK397.out (by decide))); have n1_ := Aside0.mk (Kd.R_after (ok := (fun _ => True)) (by (with_reducible repeat (first | apply Kd.R_alloc | apply Kd.R_drewN | apply Kd.R_drew)); exact HO404.out) hg hat); have n2_ := Aside0.mk (hb); have n3_ := Aside0.mk (ho); clear BK397; clear HO404; clear HB; clear HO410; have BK397 := n0_; have HO404 := n1_; have HB := n2_; have HO413 := n3_; clear n0_ n1_ n2_ n3_; clear ho hb hg hat; obtain ⟨Ao42, co42, eo42⟩ := Kd.R_slice HO413.out; subst eo42) | ((with_reducible refine gate_callee (f := 22) rfl ?_); refine goesL_ (some 42) rfl rfl Try.func22 (by kernel_rfl) rfl #[.slice Ao42 y411.length co42] rfl (by (try simp only [List.map_toArray, List.map_cons, List.map_nil]); first | done | rfl | (simp only [List.length_drop, List.length_take]; rfl)) ?_; (with_reducible refine (frame_Read.calls _ _ y411 t414 t415 t416 t417 t418 t421 t422 _ ?side1 ?side2 A33.out).mono ?_); (case side1 => repeat (first | exact (Kd.R_reads' HO413.out).2.2 | (with_reducible refine Kd.C_alloc ?_ _) | (with_reducible refine Kd.C_drewN ?_ _) | (with_reducible refine Kd.C_drew ?_))); (case side2 => exact (Kd.R_reads' HO413.out).2.1); rintro e w43 ⟨v419, rfl, ho0, hb⟩; refine ⟨_, rfl, ?_⟩; have n0_ := Aside0.mk (Kd.R_below (by (with_reducible repeat (first | apply Kd.R_alloc | apply Kd.R_drewN | apply Kd.R_drew)); exact HO404.out) hb); have n1_ := Aside0.mk (Kd.R_below (by (with_reducible repeat (first | apply Kd.R_alloc | apply Kd.R_drewN | apply Kd.R_drew)); exact HO413.out) hb); have n2_ := Aside0.mk (Kd.R_lower ho0 (below_size (by repeat (first | (with_reducible first | exact HB.out | apply below_alloc | apply pw_below_drewN | apply below_drew1 | refine below_set ?_ GE397.out) | exact HB.out)))); have n3_ := Aside0.mk (blk_below (g := gb397) (o := .cells #[.bool a0_0, .int .i64 a0_1, .bool a0_2, .int .i64 a0_3, .slice A0_4 l0_4.length c0_4] 24 (0, 0)) (by (with_reducible repeat (first | refine blk_drewN ?_ _ | refine blk_drew ?_ | refine blk_alloc ?_ _)); exact BK397.out) hb); have n4_ := Aside0.mk (below_step (by repeat (first | (with_reducible first | exact HB.out | apply below_alloc | apply pw_below_drewN | apply below_drew1 | refine below_set ?_ GE397.out) | exact HB.out)) hb); clear HO404; clear HO413; clear BK397; clear HB; have HO404 := n0_; have HO413 := n1_; have HO420 := n2_; have BK397 := n3_; have HB := n4_; clear n0_ n1_ n2_ n3_ n4_; (try clear hb); (try clear hb2); (try clear hk); (try clear hi); (try clear ho0)) | ((with_reducible refine gate_dst (N := 9) rfl ?_); (try (refine gate_guard (by rfl) ?_; dsimp only)); refine box_event ?hg (N := 9) ?hd (cs := #[.bool false, .int .i64 0, .bool false, .int .i64 0, .slice none 0 0]) (t := 24) ?hr ?_; (case hd => rfl); (case hg => rfl); (case hr => first | (go_simp; done) | (go_simp; rfl)); intro gb423 hg w44 hbox hb; have n0_ := Aside0.mk (Kd.R_below (by (with_reducible repeat (first | apply Kd.R_alloc | apply Kd.R_drewN | apply Kd.R_drew)); exact HO404.out) hb); have n1_ := Aside0.mk (Kd.R_below (by (with_reducible repeat (first | apply Kd.R_alloc | apply Kd.R_drewN | apply Kd.R_drew)); exact HO413.out) hb); have n2_ := Aside0.mk (Kd.R_below (by (with_reducible repeat (first | apply Kd.R_alloc | apply Kd.R_drewN | apply Kd.R_drew)); exact HO420.out) hb); have n3_ := Aside0.mk (blk_below (g := gb397) (o := .cells #[.bool a0_0, .int .i64 a0_1, .bool a0_2, .int .i64 a0_3, .slice A0_4 l0_4.length c0_4] 24 (0, 0)) (by (with_reducible repeat (first | refine blk_drewN ?_ _ | refine blk_drew ?_ | refine blk_alloc ?_ _)); exact BK397.out) hb); have n4_ := Aside0.mk (below_step (by repeat (first | (with_reducible first | exact HB.out | apply below_alloc | apply pw_below_drewN | apply below_drew1 | refine below_set ?_ GE397.out) | exact HB.out)) hb); have n5_ := Aside0.mk (hbox); have n6_ := Aside0.mk ((by rw [hg]; exact (below_size (by repeat (first | (with_reducible first | exact HB.out | apply below_alloc | apply pw_below_drewN | apply below_drew1 | refine below_set ?_ GE397.out) | exact HB.out))) : w.heap.size ≤ gb423)); have n7_ := Aside0.mk ((by rw [hg]; exact (below_size (by repeat (first | (with_reducible first | exact HB.out | apply below_alloc | apply pw_below_drewN | apply below_drew1 | refine below_set ?_ GE397.out) | exact HB.out))) : w.heap.size ≤ gb423)); have n8_ := Aside0.mk ((by rw [hg]; exact Nat.ne_of_lt (blk_lt (g := gb397) (o := .cells #[.bool a0_0, .int .i64 a0_1, .bool a0_2, .int .i64 a0_3, .slice A0_4 l0_4.length c0_4] 24 (0, 0)) (by (with_reducible repeat (first | refine blk_drewN ?_ _ | refine blk_drew ?_ | refine blk_alloc ?_ _)); exact BK397.out)) : gb397 ≠ gb423)); have n9_ := Aside0.mk ((by rw [hg]; exact Nat.ne_of_gt (blk_lt (g := gb397) (o := .cells #[.bool a0_0, .int .i64 a0_1, .bool a0_2, .int .i64 a0_3, .slice A0_4 l0_4.length c0_4] 24 (0, 0)) (by (with_reducible repeat (first | refine blk_drewN ?_ _ | refine blk_drew ?_ | refine blk_alloc ?_ _)); exact BK397.out)) : gb423 ≠ gb397)); clear HO404; clear HO413; clear HO420; clear BK397; clear HB; have HO404 := n0_; have HO413 := n1_; have HO420 := n2_; have BK397 := n3_; have HB := n4_; have BK423 := n5_; have GW423 := n6_; have GE423 := n7_; have NB397_423 := n8_; have NB423_397 := n9_; clear n0_ n1_ n2_ n3_ n4_ n5_ n6_ n7_ n8_ n9_; clear hb hbox hg; have hnb45 := NB423_397.out; have hnc45 := NB397_423.out; have hcz46_0 : w44.cell? ⟨gb423, 0, none⟩ = some (.bool false) := (blk_cell BK423.out 0).trans rfl; have hcz46_1 : w44.cell? ⟨gb423, 1, none⟩ = some (.int .i64 0) := (blk_cell BK423.out 1).trans rfl; have hcz46_2 : w44.cell? ⟨gb423, 2, none⟩ = some (.bool false) := (blk_cell BK423.out 2).trans rfl; have hcz46_3 : w44.cell? ⟨gb423, 3, none⟩ = some (.int .i64 0) := (blk_cell BK423.out 3).trans rfl; have hcz46_4 : w44.cell? ⟨gb423, 4, none⟩ = some (.slice none 0 0) := (blk_cell BK423.out 4).trans rfl; have hfz46_0 := blk_frozen BK423.out 0; have hfz46_1 := blk_frozen BK423.out 1; have hfz46_2 := blk_frozen BK423.out 2; have hfz46_3 := blk_frozen BK423.out 3; have hfz46_4 := blk_frozen BK423.out 4; obtain ⟨Ao47, co47, eo47⟩ := Kd.R_slice HO420.out; subst eo47))
            (try simp only [Act.put, List.setIfInBounds_toArray, List.set_cons_zero, List.set_cons_succ])
            go_cut [69] (fun v69 wc => ∃ (kq : Nat) (x69_33 : Bool), v69 = .bool x69_33 ∧ Aside0 (phaetonlaw04_FrameBack.j1 kq a2 t398 t402 x69_33 = some r) ∧ Aside0 (kq ≤ kj4) ∧ Aside0 (Kd.R (Kd.int .i64) 3 wc w.heap.size (fun _ => True) (.slice Ao40 t402.length co40) t402) ∧ Aside0 (Kd.R (Kd.int .u8) 5 wc w.heap.size (fun _ => True) (.slice Ao47 t418.length co47) t418) ∧ Aside0 (wc.heap[gb397]? = some (.cells #[.bool a0_0, .int .i64 a0_1, .bool a0_2, .int .i64 a0_3, (.slice A0_4 l0_4.length c0_4)] 24 (0, 0))) ∧ Aside0 (wc.heap[gb423]? = some (.cells #[.bool t414, .int .i64 t415, .bool t416, .int .i64 t417, (.slice Ao47 t418.length co47)] 24 (0, 0))) ∧ Aside0 (Below w.heap.size w wc))
            case first =>
              have H := HC34.out
              clear HC34
              by_cases c48 : (t402.length : Int) = 0
              · rw [if_pos c48] at H
                have c48b0 : ((t402.length : Int) == 0) = true := beq_iff_eq.mpr c48
                have c48b1 : ((t402.length : Int) != 0) = false := bne_eq_false_iff_eq.mpr c48
                clear c48
                (first | rw [c48b0] | (simp only [i64_w, i32_w]; rw [c48b0]) | skip)
                have H' := Aside0.mk H
                clear H
                go_wp2
                go_meet
                case rel => exact ⟨_, (true), (by first | rfl | (simp; done) | (simp [*]; done)), H', ⟨by have := HJ4.out; first | omega | exact Nat.le_refl _⟩, ⟨by (with_reducible repeat (first | apply Kd.R_alloc | apply Kd.R_drewN | apply Kd.R_drew)); exact Kd.R_mono (Kd.R_far (p := ⟨gb423, 4, none⟩) (Kd.R_far (p := ⟨gb423, 3, none⟩) (Kd.R_far (p := ⟨gb423, 2, none⟩) (Kd.R_far (p := ⟨gb423, 1, none⟩) (Kd.R_far (p := ⟨gb423, 0, none⟩) (Kd.R_types HO404.out BK423.out (by decide)) (fun _ hk => hk.2) (.bool t414)) (fun _ hk => hk.2) (.int .i64 t415)) (fun _ hk => hk.2) (.bool t416)) (fun _ hk => hk.2) (.int .i64 t417)) (fun _ hk => hk.2) (.slice Ao47 t418.length co47)) (fun _ hk => trivial)⟩, ⟨by (with_reducible repeat (first | apply Kd.R_alloc | apply Kd.R_drewN | apply Kd.R_drew)); exact Kd.R_mono (Kd.R_far (p := ⟨gb423, 4, none⟩) (Kd.R_far (p := ⟨gb423, 3, none⟩) (Kd.R_far (p := ⟨gb423, 2, none⟩) (Kd.R_far (p := ⟨gb423, 1, none⟩) (Kd.R_far (p := ⟨gb423, 0, none⟩) (Kd.R_types HO420.out BK423.out (by decide)) (fun _ hk => hk.2) (.bool t414)) (fun _ hk => hk.2) (.int .i64 t415)) (fun _ hk => hk.2) (.bool t416)) (fun _ hk => hk.2) (.int .i64 t417)) (fun _ hk => hk.2) (.slice Ao47 t418.length co47)) (fun _ hk => trivial)⟩, ⟨by (with_reducible repeat (first | refine blk_drewN ?_ _ | refine blk_drew ?_ | refine blk_alloc ?_ _)); refine blk_far ?_ NB397_423.out _; (with_reducible repeat (first | refine blk_drewN ?_ _ | refine blk_drew ?_ | refine blk_alloc ?_ _)); refine blk_far ?_ NB397_423.out _; (with_reducible repeat (first | refine blk_drewN ?_ _ | refine blk_drew ?_ | refine blk_alloc ?_ _)); refine blk_far ?_ NB397_423.out _; (with_reducible repeat (first | refine blk_drewN ?_ _ | refine blk_drew ?_ | refine blk_alloc ?_ _)); refine blk_far ?_ NB397_423.out _; (with_reducible repeat (first | refine blk_drewN ?_ _ | refine blk_drew ?_ | refine blk_alloc ?_ _)); refine blk_far ?_ NB397_423.out _; (with_reducible repeat (first | refine blk_drewN ?_ _ | refine blk_drew ?_ | refine blk_alloc ?_ _)); exact BK397.out⟩, ⟨by (with_reducible repeat (first | refine blk_drewN ?_ _ | refine blk_drew ?_ | refine blk_alloc ?_ _)); refine blk_put (cs := #[.bool t414, .int .i64 t415, .bool t416, .int .i64 t417, .slice none 0 0]) ?_ 4 _ rfl; (with_reducible repeat (first | refine blk_drewN ?_ _ | refine blk_drew ?_ | refine blk_alloc ?_ _)); refine blk_put (cs := #[.bool t414, .int .i64 t415, .bool t416, .int .i64 0, .slice none 0 0]) ?_ 3 _ rfl; (with_reducible repeat (first | refine blk_drewN ?_ _ | refine blk_drew ?_ | refine blk_alloc ?_ _)); refine blk_put (cs := #[.bool t414, .int .i64 t415, .bool false, .int .i64 0, .slice none 0 0]) ?_ 2 _ rfl; (with_reducible repeat (first | refine blk_drewN ?_ _ | refine blk_drew ?_ | refine blk_alloc ?_ _)); refine blk_put (cs := #[.bool t414, .int .i64 0, .bool false, .int .i64 0, .slice none 0 0]) ?_ 1 _ rfl; (with_reducible repeat (first | refine blk_drewN ?_ _ | refine blk_drew ?_ | refine blk_alloc ?_ _)); refine blk_put (cs := #[.bool false, .int .i64 0, .bool false, .int .i64 0, .slice none 0 0]) ?_ 0 _ rfl; (with_reducible repeat (first | refine blk_drewN ?_ _ | refine blk_drew ?_ | refine blk_alloc ?_ _)); exact BK423.out⟩, ⟨by repeat (first | (with_reducible first | exact HB.out | apply below_alloc | apply pw_below_drewN | apply below_drew1 | refine below_set ?_ GE397.out | refine below_set ?_ GE423.out) | exact HB.out)⟩⟩
              · rw [if_neg c48] at H
                have c48b0 : ((t402.length : Int) == 0) = false := beq_eq_false_iff_ne.mpr c48
                have c48b1 : ((t402.length : Int) != 0) = true := bne_iff_ne.mpr c48
                have c48b2 : ¬ (t402 = []) := fun h_ => c48 (by rw [h_]; rfl)
                (first | rw [c48b0] | (simp only [i64_w, i32_w]; rw [c48b0]) | skip)
                replace H := Option.bind_eq_some_iff.mp H
                obtain ⟨t424, A490, H⟩ := H
                replace H : (if t424 = true then (if t421 = (t402.length : Int) then (if t422 = 0 then ((phaetonref01_Right.f kj4 t402).bind fun t425 => (phaetonlaw04_FrameBack.j1 kj4 a2 t398 t402 (!t425))) else (phaetonlaw04_FrameBack.j1 kj4 a2 t398 t402 true)) else (phaetonlaw04_FrameBack.j1 kj4 a2 t398 t402 true)) else (phaetonlaw04_FrameBack.j1 kj4 a2 t398 t402 true)) = some r := H
                have A49 := Aside0.mk A490
                clear A490
                by_cases c50 : t424 = true
                · subst c50
                  have H1 : (if t421 = (t402.length : Int) then (if t422 = 0 then ((phaetonref01_Right.f kj4 t402).bind fun t425 => (phaetonlaw04_FrameBack.j1 kj4 a2 t398 t402 (!t425))) else (phaetonlaw04_FrameBack.j1 kj4 a2 t398 t402 true)) else (phaetonlaw04_FrameBack.j1 kj4 a2 t398 t402 true)) = some r := by rw [if_pos rfl] at H; exact H
                  clear H
                  have H := H1
                  clear H1
                  by_cases c51 : t421 = (t402.length : Int)
                  · rw [if_pos c51] at H
                    have c51b0 : (t421 == (t402.length : Int)) = true := beq_iff_eq.mpr c51
                    have c51b1 : (t421 != (t402.length : Int)) = false := bne_eq_false_iff_eq.mpr c51
                    clear c51
                    by_cases c52 : t422 = 0
                    · rw [if_pos c52] at H
                      have c52b0 : (t422 == 0) = true := beq_iff_eq.mpr c52
                      have c52b1 : (t422 != 0) = false := bne_eq_false_iff_eq.mpr c52
                      clear c52
                      replace H := Option.bind_eq_some_iff.mp H
                      obtain ⟨t425, A530, H⟩ := H
                      replace H : (phaetonlaw04_FrameBack.j1 kj4 a2 t398 t402 (!t425)) = some r := H
                      have A53 := Aside0.mk A530
                      clear A530
                      have H' := Aside0.mk H
                      clear H
                      have hnb54 := NB397_423.out
                      have hnc54 := NB423_397.out
                      have hcz55_0 : w44.cell? ⟨gb397, 0, none⟩ = some (.bool a0_0) := (blk_cell BK397.out 0).trans rfl
                      have hcz55_1 : w44.cell? ⟨gb397, 1, none⟩ = some (.int .i64 a0_1) := (blk_cell BK397.out 1).trans rfl
                      have hcz55_2 : w44.cell? ⟨gb397, 2, none⟩ = some (.bool a0_2) := (blk_cell BK397.out 2).trans rfl
                      have hcz55_3 : w44.cell? ⟨gb397, 3, none⟩ = some (.int .i64 a0_3) := (blk_cell BK397.out 3).trans rfl
                      have hcz55_4 : w44.cell? ⟨gb397, 4, none⟩ = some (.slice A0_4 l0_4.length c0_4) := (blk_cell BK397.out 4).trans rfl
                      have hfz55_0 := blk_frozen BK397.out 0
                      have hfz55_1 := blk_frozen BK397.out 1
                      have hfz55_2 := blk_frozen BK397.out 2
                      have hfz55_3 := blk_frozen BK397.out 3
                      have hfz55_4 := blk_frozen BK397.out 4
                      have hcz56_0 : w44.cell? ⟨gb423, 0, none⟩ = some (.bool false) := (blk_cell BK423.out 0).trans rfl
                      have hcz56_1 : w44.cell? ⟨gb423, 1, none⟩ = some (.int .i64 0) := (blk_cell BK423.out 1).trans rfl
                      have hcz56_2 : w44.cell? ⟨gb423, 2, none⟩ = some (.bool false) := (blk_cell BK423.out 2).trans rfl
                      have hcz56_3 : w44.cell? ⟨gb423, 3, none⟩ = some (.int .i64 0) := (blk_cell BK423.out 3).trans rfl
                      have hcz56_4 : w44.cell? ⟨gb423, 4, none⟩ = some (.slice none 0 0) := (blk_cell BK423.out 4).trans rfl
                      have hfz56_0 := blk_frozen BK423.out 0
                      have hfz56_1 := blk_frozen BK423.out 1
                      have hfz56_2 := blk_frozen BK423.out 2
                      have hfz56_3 := blk_frozen BK423.out 3
                      have hfz56_4 := blk_frozen BK423.out 4
                      go_wp2_with (first | ((with_reducible refine gate_store (t := 24) (p := 9) rfl ?_); refine HW.store_box rfl rfl 24 _ _ rfl rfl rfl BK423.out rfl (by kernel_rfl) (by intro q hq; simp only [List.mem_cons, List.not_mem_nil, or_false] at hq; rcases hq with rfl | rfl | rfl | rfl | rfl <;> rfl) ?_; intro w1_ hw1_; simp only [List.toList_toArray, World.setCells, Nat.zero_add, Nat.reduceAdd] at hw1_; subst hw1_) | ((with_reducible refine gate_store (t := 24) (p := 3) rfl ?_); refine HW.store_box rfl rfl 24 _ _ rfl rfl rfl BK397.out rfl (by kernel_rfl) (by intro q hq; simp only [List.mem_cons, List.not_mem_nil, or_false] at hq; rcases hq with rfl | rfl | rfl | rfl | rfl <;> rfl) ?_; intro w1_ hw1_; simp only [List.toList_toArray, World.setCells, Nat.zero_add, Nat.reduceAdd] at hw1_; subst hw1_) | (go_at_call 15; (with_reducible refine (phaetonref04_Same.calls a0_0 a0_1 a0_2 a0_3 _ _ l0_4 t414 t415 t416 t417 _ _ t418 true _ ?side1 ?side2 ?side3 ?side4 A49.out).mono ?_); (case side1 => exact Kd.C_below HR0_4.out (by repeat (first | (with_reducible first | exact HB.out | apply below_alloc | apply pw_below_drewN | apply below_drew1 | refine below_set ?_ GE397.out | refine below_set ?_ GE423.out) | exact HB.out))); (case side2 => exact HC0_4.out); (case side3 => refine (Kd.R_reads' (e := 5) (base := w.heap.size) (ok := fun k_ => True) (n := t418.length) (c := co47) ?_).2.2; exact (by (with_reducible repeat (first | apply Kd.R_alloc | apply Kd.R_drewN | apply Kd.R_drew)); exact (Kd.R_mono (Kd.R_far (p := ⟨gb423, 4, none⟩) (Kd.R_far (p := ⟨gb423, 3, none⟩) (Kd.R_far (p := ⟨gb423, 2, none⟩) (Kd.R_far (p := ⟨gb423, 1, none⟩) (Kd.R_far (p := ⟨gb423, 0, none⟩) (Kd.R_types HO420.out BK423.out (by decide)) (fun _ hk => hk.2) (.bool t414)) (fun _ hk => hk.2) (.int .i64 t415)) (fun _ hk => hk.2) (.bool t416)) (fun _ hk => hk.2) (.int .i64 t417)) (fun _ hk => hk.2) (.slice Ao47 t418.length co47)) (fun _ h_ => h_.1)))); (case side4 => exact (Kd.R_reads' HO420.out).2.1); rintro e w57 ⟨rfl, hb⟩; have n0_ := Aside0.mk (Kd.R_below (by (with_reducible repeat (first | apply Kd.R_alloc | apply Kd.R_drewN | apply Kd.R_drew)); exact (Kd.R_mono (Kd.R_far (p := ⟨gb423, 4, none⟩) (Kd.R_far (p := ⟨gb423, 3, none⟩) (Kd.R_far (p := ⟨gb423, 2, none⟩) (Kd.R_far (p := ⟨gb423, 1, none⟩) (Kd.R_far (p := ⟨gb423, 0, none⟩) (Kd.R_types HO404.out BK423.out (by decide)) (fun _ hk => hk.2) (.bool t414)) (fun _ hk => hk.2) (.int .i64 t415)) (fun _ hk => hk.2) (.bool t416)) (fun _ hk => hk.2) (.int .i64 t417)) (fun _ hk => hk.2) (.slice Ao47 t418.length co47)) (fun _ h_ => h_.1))) hb); have n1_ := Aside0.mk (Kd.R_below (by (with_reducible repeat (first | apply Kd.R_alloc | apply Kd.R_drewN | apply Kd.R_drew)); exact (Kd.R_mono (Kd.R_far (p := ⟨gb423, 4, none⟩) (Kd.R_far (p := ⟨gb423, 3, none⟩) (Kd.R_far (p := ⟨gb423, 2, none⟩) (Kd.R_far (p := ⟨gb423, 1, none⟩) (Kd.R_far (p := ⟨gb423, 0, none⟩) (Kd.R_types HO413.out BK423.out (by decide)) (fun _ hk => hk.2) (.bool t414)) (fun _ hk => hk.2) (.int .i64 t415)) (fun _ hk => hk.2) (.bool t416)) (fun _ hk => hk.2) (.int .i64 t417)) (fun _ hk => hk.2) (.slice Ao47 t418.length co47)) (fun _ h_ => h_.1))) hb); have n2_ := Aside0.mk (Kd.R_below (by (with_reducible repeat (first | apply Kd.R_alloc | apply Kd.R_drewN | apply Kd.R_drew)); exact (Kd.R_mono (Kd.R_far (p := ⟨gb423, 4, none⟩) (Kd.R_far (p := ⟨gb423, 3, none⟩) (Kd.R_far (p := ⟨gb423, 2, none⟩) (Kd.R_far (p := ⟨gb423, 1, none⟩) (Kd.R_far (p := ⟨gb423, 0, none⟩) (Kd.R_types HO420.out BK423.out (by decide)) (fun _ hk => hk.2) (.bool t414)) (fun _ hk => hk.2) (.int .i64 t415)) (fun _ hk => hk.2) (.bool t416)) (fun _ hk => hk.2) (.int .i64 t417)) (fun _ hk => hk.2) (.slice Ao47 t418.length co47)) (fun _ h_ => h_.1))) hb); have n3_ := Aside0.mk (blk_below (g := gb397) (o := .cells #[.bool a0_0, .int .i64 a0_1, .bool a0_2, .int .i64 a0_3, .slice A0_4 l0_4.length c0_4] 24 (0, 0)) (by (with_reducible repeat (first | refine blk_drewN ?_ _ | refine blk_drew ?_ | refine blk_alloc ?_ _)); refine blk_far ?_ NB397_423.out _; (with_reducible repeat (first | refine blk_drewN ?_ _ | refine blk_drew ?_ | refine blk_alloc ?_ _)); refine blk_far ?_ NB397_423.out _; (with_reducible repeat (first | refine blk_drewN ?_ _ | refine blk_drew ?_ | refine blk_alloc ?_ _)); refine blk_far ?_ NB397_423.out _; (with_reducible repeat (first | refine blk_drewN ?_ _ | refine blk_drew ?_ | refine blk_alloc ?_ _)); refine blk_far ?_ NB397_423.out _; (with_reducible repeat (first | refine blk_drewN ?_ _ | refine blk_drew ?_ | refine blk_alloc ?_ _)); refine blk_far ?_ NB397_423.out _; (with_reducible repeat (first | refine blk_drewN ?_ _ | refine blk_drew ?_ | refine blk_alloc ?_ _)); exact BK397.out) hb); have n4_ := Aside0.mk (blk_below (g := gb423) (o := .cells #[.bool t414, .int .i64 t415, .bool t416, .int .i64 t417, .slice Ao47 t418.length co47] 24 (0, 0)) (by (with_reducible repeat (first | refine blk_drewN ?_ _ | refine blk_drew ?_ | refine blk_alloc ?_ _)); refine blk_put (cs := #[.bool t414, .int .i64 t415, .bool t416, .int .i64 t417, .slice none 0 0]) ?_ 4 _ rfl; (with_reducible repeat (first | refine blk_drewN ?_ _ | refine blk_drew ?_ | refine blk_alloc ?_ _)); refine blk_put (cs := #[.bool t414, .int .i64 t415, .bool t416, .int .i64 0, .slice none 0 0]) ?_ 3 _ rfl; (with_reducible repeat (first | refine blk_drewN ?_ _ | refine blk_drew ?_ | refine blk_alloc ?_ _)); refine blk_put (cs := #[.bool t414, .int .i64 t415, .bool false, .int .i64 0, .slice none 0 0]) ?_ 2 _ rfl; (with_reducible repeat (first | refine blk_drewN ?_ _ | refine blk_drew ?_ | refine blk_alloc ?_ _)); refine blk_put (cs := #[.bool t414, .int .i64 0, .bool false, .int .i64 0, .slice none 0 0]) ?_ 1 _ rfl; (with_reducible repeat (first | refine blk_drewN ?_ _ | refine blk_drew ?_ | refine blk_alloc ?_ _)); refine blk_put (cs := #[.bool false, .int .i64 0, .bool false, .int .i64 0, .slice none 0 0]) ?_ 0 _ rfl; (with_reducible repeat (first | refine blk_drewN ?_ _ | refine blk_drew ?_ | refine blk_alloc ?_ _)); exact BK423.out) hb); have n5_ := Aside0.mk (below_step (by repeat (first | (with_reducible first | exact HB.out | apply below_alloc | apply pw_below_drewN | apply below_drew1 | refine below_set ?_ GE397.out | refine below_set ?_ GE423.out) | exact HB.out)) hb); clear HO404; clear HO413; clear HO420; clear BK397; clear BK423; clear HB; have HO404 := n0_; have HO413 := n1_; have HO420 := n2_; have BK397 := n3_; have BK423 := n4_; have HB := n5_; clear n0_ n1_ n2_ n3_ n4_ n5_; (try clear hb); (try clear hb2); (try clear hk); (try clear hi)) | (go_at_call 21; (with_reducible refine (phaetonref01_Right.calls kj4 _ _ t402 t425 _ ?side1 ?side2 A53.out).mono ?_); (case side1 => repeat (first | exact (Kd.R_reads' HO404.out).2.2 | (with_reducible refine Kd.C_alloc ?_ _) | (with_reducible refine Kd.C_drewN ?_ _) | (with_reducible refine Kd.C_drew ?_))); (case side2 => exact (Kd.R_reads' HO404.out).2.1); rintro e w' ⟨rfl, ⟨nd, rfl⟩⟩))
                      go_meet
                      case rel => exact ⟨_, (!t425), (by first | rfl | (simp; done) | (simp [*]; done)), H', ⟨by have := HJ4.out; first | omega | exact Nat.le_refl _⟩, ⟨by (with_reducible repeat (first | apply Kd.R_alloc | apply Kd.R_drewN | apply Kd.R_drew)); exact Kd.R_mono HO404.out (fun _ hk => trivial)⟩, ⟨by (with_reducible repeat (first | apply Kd.R_alloc | apply Kd.R_drewN | apply Kd.R_drew)); exact HO420.out⟩, ⟨by (with_reducible repeat (first | refine blk_drewN ?_ _ | refine blk_drew ?_ | refine blk_alloc ?_ _)); exact BK397.out⟩, ⟨by (with_reducible repeat (first | refine blk_drewN ?_ _ | refine blk_drew ?_ | refine blk_alloc ?_ _)); exact BK423.out⟩, ⟨by repeat (first | (with_reducible first | exact HB.out | apply below_alloc | apply pw_below_drewN | apply below_drew1 | refine below_set ?_ GE397.out | refine below_set ?_ GE423.out) | exact HB.out)⟩⟩
                    · rw [if_neg c52] at H
                      have c52b0 : (t422 == 0) = false := beq_eq_false_iff_ne.mpr c52
                      have c52b1 : (t422 != 0) = true := bne_iff_ne.mpr c52
                      have H' := Aside0.mk H
                      clear H
                      have hnb58 := NB397_423.out
                      have hnc58 := NB423_397.out
                      have hcz59_0 : w44.cell? ⟨gb397, 0, none⟩ = some (.bool a0_0) := (blk_cell BK397.out 0).trans rfl
                      have hcz59_1 : w44.cell? ⟨gb397, 1, none⟩ = some (.int .i64 a0_1) := (blk_cell BK397.out 1).trans rfl
                      have hcz59_2 : w44.cell? ⟨gb397, 2, none⟩ = some (.bool a0_2) := (blk_cell BK397.out 2).trans rfl
                      have hcz59_3 : w44.cell? ⟨gb397, 3, none⟩ = some (.int .i64 a0_3) := (blk_cell BK397.out 3).trans rfl
                      have hcz59_4 : w44.cell? ⟨gb397, 4, none⟩ = some (.slice A0_4 l0_4.length c0_4) := (blk_cell BK397.out 4).trans rfl
                      have hfz59_0 := blk_frozen BK397.out 0
                      have hfz59_1 := blk_frozen BK397.out 1
                      have hfz59_2 := blk_frozen BK397.out 2
                      have hfz59_3 := blk_frozen BK397.out 3
                      have hfz59_4 := blk_frozen BK397.out 4
                      have hcz60_0 : w44.cell? ⟨gb423, 0, none⟩ = some (.bool false) := (blk_cell BK423.out 0).trans rfl
                      have hcz60_1 : w44.cell? ⟨gb423, 1, none⟩ = some (.int .i64 0) := (blk_cell BK423.out 1).trans rfl
                      have hcz60_2 : w44.cell? ⟨gb423, 2, none⟩ = some (.bool false) := (blk_cell BK423.out 2).trans rfl
                      have hcz60_3 : w44.cell? ⟨gb423, 3, none⟩ = some (.int .i64 0) := (blk_cell BK423.out 3).trans rfl
                      have hcz60_4 : w44.cell? ⟨gb423, 4, none⟩ = some (.slice none 0 0) := (blk_cell BK423.out 4).trans rfl
                      have hfz60_0 := blk_frozen BK423.out 0
                      have hfz60_1 := blk_frozen BK423.out 1
                      have hfz60_2 := blk_frozen BK423.out 2
                      have hfz60_3 := blk_frozen BK423.out 3
                      have hfz60_4 := blk_frozen BK423.out 4
                      go_wp2_with (first | ((with_reducible refine gate_store (t := 24) (p := 9) rfl ?_); refine HW.store_box rfl rfl 24 _ _ rfl rfl rfl BK423.out rfl (by kernel_rfl) (by intro q hq; simp only [List.mem_cons, List.not_mem_nil, or_false] at hq; rcases hq with rfl | rfl | rfl | rfl | rfl <;> rfl) ?_; intro w1_ hw1_; simp only [List.toList_toArray, World.setCells, Nat.zero_add, Nat.reduceAdd] at hw1_; subst hw1_) | ((with_reducible refine gate_store (t := 24) (p := 3) rfl ?_); refine HW.store_box rfl rfl 24 _ _ rfl rfl rfl BK397.out rfl (by kernel_rfl) (by intro q hq; simp only [List.mem_cons, List.not_mem_nil, or_false] at hq; rcases hq with rfl | rfl | rfl | rfl | rfl <;> rfl) ?_; intro w1_ hw1_; simp only [List.toList_toArray, World.setCells, Nat.zero_add, Nat.reduceAdd] at hw1_; subst hw1_) | (go_at_call 15; (with_reducible refine (phaetonref04_Same.calls a0_0 a0_1 a0_2 a0_3 _ _ l0_4 t414 t415 t416 t417 _ _ t418 true _ ?side1 ?side2 ?side3 ?side4 A49.out).mono ?_); (case side1 => exact Kd.C_below HR0_4.out (by repeat (first | (with_reducible first | exact HB.out | apply below_alloc | apply pw_below_drewN | apply below_drew1 | refine below_set ?_ GE397.out | refine below_set ?_ GE423.out) | exact HB.out))); (case side2 => exact HC0_4.out); (case side3 => refine (Kd.R_reads' (e := 5) (base := w.heap.size) (ok := fun k_ => True) (n := t418.length) (c := co47) ?_).2.2; exact (by (with_reducible repeat (first | apply Kd.R_alloc | apply Kd.R_drewN | apply Kd.R_drew)); exact (Kd.R_mono (Kd.R_far (p := ⟨gb423, 4, none⟩) (Kd.R_far (p := ⟨gb423, 3, none⟩) (Kd.R_far (p := ⟨gb423, 2, none⟩) (Kd.R_far (p := ⟨gb423, 1, none⟩) (Kd.R_far (p := ⟨gb423, 0, none⟩) (Kd.R_types HO420.out BK423.out (by decide)) (fun _ hk => hk.2) (.bool t414)) (fun _ hk => hk.2) (.int .i64 t415)) (fun _ hk => hk.2) (.bool t416)) (fun _ hk => hk.2) (.int .i64 t417)) (fun _ hk => hk.2) (.slice Ao47 t418.length co47)) (fun _ h_ => h_.1)))); (case side4 => exact (Kd.R_reads' HO420.out).2.1); rintro e w61 ⟨rfl, hb⟩; have n0_ := Aside0.mk (Kd.R_below (by (with_reducible repeat (first | apply Kd.R_alloc | apply Kd.R_drewN | apply Kd.R_drew)); exact (Kd.R_mono (Kd.R_far (p := ⟨gb423, 4, none⟩) (Kd.R_far (p := ⟨gb423, 3, none⟩) (Kd.R_far (p := ⟨gb423, 2, none⟩) (Kd.R_far (p := ⟨gb423, 1, none⟩) (Kd.R_far (p := ⟨gb423, 0, none⟩) (Kd.R_types HO404.out BK423.out (by decide)) (fun _ hk => hk.2) (.bool t414)) (fun _ hk => hk.2) (.int .i64 t415)) (fun _ hk => hk.2) (.bool t416)) (fun _ hk => hk.2) (.int .i64 t417)) (fun _ hk => hk.2) (.slice Ao47 t418.length co47)) (fun _ h_ => h_.1))) hb); have n1_ := Aside0.mk (Kd.R_below (by (with_reducible repeat (first | apply Kd.R_alloc | apply Kd.R_drewN | apply Kd.R_drew)); exact (Kd.R_mono (Kd.R_far (p := ⟨gb423, 4, none⟩) (Kd.R_far (p := ⟨gb423, 3, none⟩) (Kd.R_far (p := ⟨gb423, 2, none⟩) (Kd.R_far (p := ⟨gb423, 1, none⟩) (Kd.R_far (p := ⟨gb423, 0, none⟩) (Kd.R_types HO413.out BK423.out (by decide)) (fun _ hk => hk.2) (.bool t414)) (fun _ hk => hk.2) (.int .i64 t415)) (fun _ hk => hk.2) (.bool t416)) (fun _ hk => hk.2) (.int .i64 t417)) (fun _ hk => hk.2) (.slice Ao47 t418.length co47)) (fun _ h_ => h_.1))) hb); have n2_ := Aside0.mk (Kd.R_below (by (with_reducible repeat (first | apply Kd.R_alloc | apply Kd.R_drewN | apply Kd.R_drew)); exact (Kd.R_mono (Kd.R_far (p := ⟨gb423, 4, none⟩) (Kd.R_far (p := ⟨gb423, 3, none⟩) (Kd.R_far (p := ⟨gb423, 2, none⟩) (Kd.R_far (p := ⟨gb423, 1, none⟩) (Kd.R_far (p := ⟨gb423, 0, none⟩) (Kd.R_types HO420.out BK423.out (by decide)) (fun _ hk => hk.2) (.bool t414)) (fun _ hk => hk.2) (.int .i64 t415)) (fun _ hk => hk.2) (.bool t416)) (fun _ hk => hk.2) (.int .i64 t417)) (fun _ hk => hk.2) (.slice Ao47 t418.length co47)) (fun _ h_ => h_.1))) hb); have n3_ := Aside0.mk (blk_below (g := gb397) (o := .cells #[.bool a0_0, .int .i64 a0_1, .bool a0_2, .int .i64 a0_3, .slice A0_4 l0_4.length c0_4] 24 (0, 0)) (by (with_reducible repeat (first | refine blk_drewN ?_ _ | refine blk_drew ?_ | refine blk_alloc ?_ _)); refine blk_far ?_ NB397_423.out _; (with_reducible repeat (first | refine blk_drewN ?_ _ | refine blk_drew ?_ | refine blk_alloc ?_ _)); refine blk_far ?_ NB397_423.out _; (with_reducible repeat (first | refine blk_drewN ?_ _ | refine blk_drew ?_ | refine blk_alloc ?_ _)); refine blk_far ?_ NB397_423.out _; (with_reducible repeat (first | refine blk_drewN ?_ _ | refine blk_drew ?_ | refine blk_alloc ?_ _)); refine blk_far ?_ NB397_423.out _; (with_reducible repeat (first | refine blk_drewN ?_ _ | refine blk_drew ?_ | refine blk_alloc ?_ _)); refine blk_far ?_ NB397_423.out _; (with_reducible repeat (first | refine blk_drewN ?_ _ | refine blk_drew ?_ | refine blk_alloc ?_ _)); exact BK397.out) hb); have n4_ := Aside0.mk (blk_below (g := gb423) (o := .cells #[.bool t414, .int .i64 t415, .bool t416, .int .i64 t417, .slice Ao47 t418.length co47] 24 (0, 0)) (by (with_reducible repeat (first | refine blk_drewN ?_ _ | refine blk_drew ?_ | refine blk_alloc ?_ _)); refine blk_put (cs := #[.bool t414, .int .i64 t415, .bool t416, .int .i64 t417, .slice none 0 0]) ?_ 4 _ rfl; (with_reducible repeat (first | refine blk_drewN ?_ _ | refine blk_drew ?_ | refine blk_alloc ?_ _)); refine blk_put (cs := #[.bool t414, .int .i64 t415, .bool t416, .int .i64 0, .slice none 0 0]) ?_ 3 _ rfl; (with_reducible repeat (first | refine blk_drewN ?_ _ | refine blk_drew ?_ | refine blk_alloc ?_ _)); refine blk_put (cs := #[.bool t414, .int .i64 t415, .bool false, .int .i64 0, .slice none 0 0]) ?_ 2 _ rfl; (with_reducible repeat (first | refine blk_drewN ?_ _ | refine blk_drew ?_ | refine blk_alloc ?_ _)); refine blk_put (cs := #[.bool t414, .int .i64 0, .bool false, .int .i64 0, .slice none 0 0]) ?_ 1 _ rfl; (with_reducible repeat (first | refine blk_drewN ?_ _ | refine blk_drew ?_ | refine blk_alloc ?_ _)); refine blk_put (cs := #[.bool false, .int .i64 0, .bool false, .int .i64 0, .slice none 0 0]) ?_ 0 _ rfl; (with_reducible repeat (first | refine blk_drewN ?_ _ | refine blk_drew ?_ | refine blk_alloc ?_ _)); exact BK423.out) hb); have n5_ := Aside0.mk (below_step (by repeat (first | (with_reducible first | exact HB.out | apply below_alloc | apply pw_below_drewN | apply below_drew1 | refine below_set ?_ GE397.out | refine below_set ?_ GE423.out) | exact HB.out)) hb); clear HO404; clear HO413; clear HO420; clear BK397; clear BK423; clear HB; have HO404 := n0_; have HO413 := n1_; have HO420 := n2_; have BK397 := n3_; have BK423 := n4_; have HB := n5_; clear n0_ n1_ n2_ n3_ n4_ n5_; (try clear hb); (try clear hb2); (try clear hk); (try clear hi)))
                      go_meet
                      case rel => exact ⟨_, (true), (by first | rfl | (simp; done) | (simp [*]; done)), H', ⟨by have := HJ4.out; first | omega | exact Nat.le_refl _⟩, ⟨by (with_reducible repeat (first | apply Kd.R_alloc | apply Kd.R_drewN | apply Kd.R_drew)); exact Kd.R_mono HO404.out (fun _ hk => trivial)⟩, ⟨by (with_reducible repeat (first | apply Kd.R_alloc | apply Kd.R_drewN | apply Kd.R_drew)); exact HO420.out⟩, ⟨by (with_reducible repeat (first | refine blk_drewN ?_ _ | refine blk_drew ?_ | refine blk_alloc ?_ _)); exact BK397.out⟩, ⟨by (with_reducible repeat (first | refine blk_drewN ?_ _ | refine blk_drew ?_ | refine blk_alloc ?_ _)); exact BK423.out⟩, ⟨by repeat (first | (with_reducible first | exact HB.out | apply below_alloc | apply pw_below_drewN | apply below_drew1 | refine below_set ?_ GE397.out | refine below_set ?_ GE423.out) | exact HB.out)⟩⟩
                  · rw [if_neg c51] at H
                    have c51b0 : (t421 == (t402.length : Int)) = false := beq_eq_false_iff_ne.mpr c51
                    have c51b1 : (t421 != (t402.length : Int)) = true := bne_iff_ne.mpr c51
                    have H' := Aside0.mk H
                    clear H
                    have hnb62 := NB397_423.out
                    have hnc62 := NB423_397.out
                    have hcz63_0 : w44.cell? ⟨gb397, 0, none⟩ = some (.bool a0_0) := (blk_cell BK397.out 0).trans rfl
                    have hcz63_1 : w44.cell? ⟨gb397, 1, none⟩ = some (.int .i64 a0_1) := (blk_cell BK397.out 1).trans rfl
                    have hcz63_2 : w44.cell? ⟨gb397, 2, none⟩ = some (.bool a0_2) := (blk_cell BK397.out 2).trans rfl
                    have hcz63_3 : w44.cell? ⟨gb397, 3, none⟩ = some (.int .i64 a0_3) := (blk_cell BK397.out 3).trans rfl
                    have hcz63_4 : w44.cell? ⟨gb397, 4, none⟩ = some (.slice A0_4 l0_4.length c0_4) := (blk_cell BK397.out 4).trans rfl
                    have hfz63_0 := blk_frozen BK397.out 0
                    have hfz63_1 := blk_frozen BK397.out 1
                    have hfz63_2 := blk_frozen BK397.out 2
                    have hfz63_3 := blk_frozen BK397.out 3
                    have hfz63_4 := blk_frozen BK397.out 4
                    have hcz64_0 : w44.cell? ⟨gb423, 0, none⟩ = some (.bool false) := (blk_cell BK423.out 0).trans rfl
                    have hcz64_1 : w44.cell? ⟨gb423, 1, none⟩ = some (.int .i64 0) := (blk_cell BK423.out 1).trans rfl
                    have hcz64_2 : w44.cell? ⟨gb423, 2, none⟩ = some (.bool false) := (blk_cell BK423.out 2).trans rfl
                    have hcz64_3 : w44.cell? ⟨gb423, 3, none⟩ = some (.int .i64 0) := (blk_cell BK423.out 3).trans rfl
                    have hcz64_4 : w44.cell? ⟨gb423, 4, none⟩ = some (.slice none 0 0) := (blk_cell BK423.out 4).trans rfl
                    have hfz64_0 := blk_frozen BK423.out 0
                    have hfz64_1 := blk_frozen BK423.out 1
                    have hfz64_2 := blk_frozen BK423.out 2
                    have hfz64_3 := blk_frozen BK423.out 3
                    have hfz64_4 := blk_frozen BK423.out 4
                    go_wp2_with (first | ((with_reducible refine gate_store (t := 24) (p := 9) rfl ?_); refine HW.store_box rfl rfl 24 _ _ rfl rfl rfl BK423.out rfl (by kernel_rfl) (by intro q hq; simp only [List.mem_cons, List.not_mem_nil, or_false] at hq; rcases hq with rfl | rfl | rfl | rfl | rfl <;> rfl) ?_; intro w1_ hw1_; simp only [List.toList_toArray, World.setCells, Nat.zero_add, Nat.reduceAdd] at hw1_; subst hw1_) | ((with_reducible refine gate_store (t := 24) (p := 3) rfl ?_); refine HW.store_box rfl rfl 24 _ _ rfl rfl rfl BK397.out rfl (by kernel_rfl) (by intro q hq; simp only [List.mem_cons, List.not_mem_nil, or_false] at hq; rcases hq with rfl | rfl | rfl | rfl | rfl <;> rfl) ?_; intro w1_ hw1_; simp only [List.toList_toArray, World.setCells, Nat.zero_add, Nat.reduceAdd] at hw1_; subst hw1_) | (go_at_call 15; (with_reducible refine (phaetonref04_Same.calls a0_0 a0_1 a0_2 a0_3 _ _ l0_4 t414 t415 t416 t417 _ _ t418 true _ ?side1 ?side2 ?side3 ?side4 A49.out).mono ?_); (case side1 => exact Kd.C_below HR0_4.out (by repeat (first | (with_reducible first | exact HB.out | apply below_alloc | apply pw_below_drewN | apply below_drew1 | refine below_set ?_ GE397.out | refine below_set ?_ GE423.out) | exact HB.out))); (case side2 => exact HC0_4.out); (case side3 => refine (Kd.R_reads' (e := 5) (base := w.heap.size) (ok := fun k_ => True) (n := t418.length) (c := co47) ?_).2.2; exact (by (with_reducible repeat (first | apply Kd.R_alloc | apply Kd.R_drewN | apply Kd.R_drew)); exact (Kd.R_mono (Kd.R_far (p := ⟨gb423, 4, none⟩) (Kd.R_far (p := ⟨gb423, 3, none⟩) (Kd.R_far (p := ⟨gb423, 2, none⟩) (Kd.R_far (p := ⟨gb423, 1, none⟩) (Kd.R_far (p := ⟨gb423, 0, none⟩) (Kd.R_types HO420.out BK423.out (by decide)) (fun _ hk => hk.2) (.bool t414)) (fun _ hk => hk.2) (.int .i64 t415)) (fun _ hk => hk.2) (.bool t416)) (fun _ hk => hk.2) (.int .i64 t417)) (fun _ hk => hk.2) (.slice Ao47 t418.length co47)) (fun _ h_ => h_.1)))); (case side4 => exact (Kd.R_reads' HO420.out).2.1); rintro e w65 ⟨rfl, hb⟩; have n0_ := Aside0.mk (Kd.R_below (by (with_reducible repeat (first | apply Kd.R_alloc | apply Kd.R_drewN | apply Kd.R_drew)); exact (Kd.R_mono (Kd.R_far (p := ⟨gb423, 4, none⟩) (Kd.R_far (p := ⟨gb423, 3, none⟩) (Kd.R_far (p := ⟨gb423, 2, none⟩) (Kd.R_far (p := ⟨gb423, 1, none⟩) (Kd.R_far (p := ⟨gb423, 0, none⟩) (Kd.R_types HO404.out BK423.out (by decide)) (fun _ hk => hk.2) (.bool t414)) (fun _ hk => hk.2) (.int .i64 t415)) (fun _ hk => hk.2) (.bool t416)) (fun _ hk => hk.2) (.int .i64 t417)) (fun _ hk => hk.2) (.slice Ao47 t418.length co47)) (fun _ h_ => h_.1))) hb); have n1_ := Aside0.mk (Kd.R_below (by (with_reducible repeat (first | apply Kd.R_alloc | apply Kd.R_drewN | apply Kd.R_drew)); exact (Kd.R_mono (Kd.R_far (p := ⟨gb423, 4, none⟩) (Kd.R_far (p := ⟨gb423, 3, none⟩) (Kd.R_far (p := ⟨gb423, 2, none⟩) (Kd.R_far (p := ⟨gb423, 1, none⟩) (Kd.R_far (p := ⟨gb423, 0, none⟩) (Kd.R_types HO413.out BK423.out (by decide)) (fun _ hk => hk.2) (.bool t414)) (fun _ hk => hk.2) (.int .i64 t415)) (fun _ hk => hk.2) (.bool t416)) (fun _ hk => hk.2) (.int .i64 t417)) (fun _ hk => hk.2) (.slice Ao47 t418.length co47)) (fun _ h_ => h_.1))) hb); have n2_ := Aside0.mk (Kd.R_below (by (with_reducible repeat (first | apply Kd.R_alloc | apply Kd.R_drewN | apply Kd.R_drew)); exact (Kd.R_mono (Kd.R_far (p := ⟨gb423, 4, none⟩) (Kd.R_far (p := ⟨gb423, 3, none⟩) (Kd.R_far (p := ⟨gb423, 2, none⟩) (Kd.R_far (p := ⟨gb423, 1, none⟩) (Kd.R_far (p := ⟨gb423, 0, none⟩) (Kd.R_types HO420.out BK423.out (by decide)) (fun _ hk => hk.2) (.bool t414)) (fun _ hk => hk.2) (.int .i64 t415)) (fun _ hk => hk.2) (.bool t416)) (fun _ hk => hk.2) (.int .i64 t417)) (fun _ hk => hk.2) (.slice Ao47 t418.length co47)) (fun _ h_ => h_.1))) hb); have n3_ := Aside0.mk (blk_below (g := gb397) (o := .cells #[.bool a0_0, .int .i64 a0_1, .bool a0_2, .int .i64 a0_3, .slice A0_4 l0_4.length c0_4] 24 (0, 0)) (by (with_reducible repeat (first | refine blk_drewN ?_ _ | refine blk_drew ?_ | refine blk_alloc ?_ _)); refine blk_far ?_ NB397_423.out _; (with_reducible repeat (first | refine blk_drewN ?_ _ | refine blk_drew ?_ | refine blk_alloc ?_ _)); refine blk_far ?_ NB397_423.out _; (with_reducible repeat (first | refine blk_drewN ?_ _ | refine blk_drew ?_ | refine blk_alloc ?_ _)); refine blk_far ?_ NB397_423.out _; (with_reducible repeat (first | refine blk_drewN ?_ _ | refine blk_drew ?_ | refine blk_alloc ?_ _)); refine blk_far ?_ NB397_423.out _; (with_reducible repeat (first | refine blk_drewN ?_ _ | refine blk_drew ?_ | refine blk_alloc ?_ _)); refine blk_far ?_ NB397_423.out _; (with_reducible repeat (first | refine blk_drewN ?_ _ | refine blk_drew ?_ | refine blk_alloc ?_ _)); exact BK397.out) hb); have n4_ := Aside0.mk (blk_below (g := gb423) (o := .cells #[.bool t414, .int .i64 t415, .bool t416, .int .i64 t417, .slice Ao47 t418.length co47] 24 (0, 0)) (by (with_reducible repeat (first | refine blk_drewN ?_ _ | refine blk_drew ?_ | refine blk_alloc ?_ _)); refine blk_put (cs := #[.bool t414, .int .i64 t415, .bool t416, .int .i64 t417, .slice none 0 0]) ?_ 4 _ rfl; (with_reducible repeat (first | refine blk_drewN ?_ _ | refine blk_drew ?_ | refine blk_alloc ?_ _)); refine blk_put (cs := #[.bool t414, .int .i64 t415, .bool t416, .int .i64 0, .slice none 0 0]) ?_ 3 _ rfl; (with_reducible repeat (first | refine blk_drewN ?_ _ | refine blk_drew ?_ | refine blk_alloc ?_ _)); refine blk_put (cs := #[.bool t414, .int .i64 t415, .bool false, .int .i64 0, .slice none 0 0]) ?_ 2 _ rfl; (with_reducible repeat (first | refine blk_drewN ?_ _ | refine blk_drew ?_ | refine blk_alloc ?_ _)); refine blk_put (cs := #[.bool t414, .int .i64 0, .bool false, .int .i64 0, .slice none 0 0]) ?_ 1 _ rfl; (with_reducible repeat (first | refine blk_drewN ?_ _ | refine blk_drew ?_ | refine blk_alloc ?_ _)); refine blk_put (cs := #[.bool false, .int .i64 0, .bool false, .int .i64 0, .slice none 0 0]) ?_ 0 _ rfl; (with_reducible repeat (first | refine blk_drewN ?_ _ | refine blk_drew ?_ | refine blk_alloc ?_ _)); exact BK423.out) hb); have n5_ := Aside0.mk (below_step (by repeat (first | (with_reducible first | exact HB.out | apply below_alloc | apply pw_below_drewN | apply below_drew1 | refine below_set ?_ GE397.out | refine below_set ?_ GE423.out) | exact HB.out)) hb); clear HO404; clear HO413; clear HO420; clear BK397; clear BK423; clear HB; have HO404 := n0_; have HO413 := n1_; have HO420 := n2_; have BK397 := n3_; have BK423 := n4_; have HB := n5_; clear n0_ n1_ n2_ n3_ n4_ n5_; (try clear hb); (try clear hb2); (try clear hk); (try clear hi)))
                    go_meet
                    case rel => exact ⟨_, (true), (by first | rfl | (simp; done) | (simp [*]; done)), H', ⟨by have := HJ4.out; first | omega | exact Nat.le_refl _⟩, ⟨by (with_reducible repeat (first | apply Kd.R_alloc | apply Kd.R_drewN | apply Kd.R_drew)); exact Kd.R_mono HO404.out (fun _ hk => trivial)⟩, ⟨by (with_reducible repeat (first | apply Kd.R_alloc | apply Kd.R_drewN | apply Kd.R_drew)); exact HO420.out⟩, ⟨by (with_reducible repeat (first | refine blk_drewN ?_ _ | refine blk_drew ?_ | refine blk_alloc ?_ _)); exact BK397.out⟩, ⟨by (with_reducible repeat (first | refine blk_drewN ?_ _ | refine blk_drew ?_ | refine blk_alloc ?_ _)); exact BK423.out⟩, ⟨by repeat (first | (with_reducible first | exact HB.out | apply below_alloc | apply pw_below_drewN | apply below_drew1 | refine below_set ?_ GE397.out | refine below_set ?_ GE423.out) | exact HB.out)⟩⟩
                · replace c50 := Bool.eq_false_iff.mpr c50
                  subst c50
                  have H1 : (phaetonlaw04_FrameBack.j1 kj4 a2 t398 t402 true) = some r := by rw [if_neg (show ¬ (false = true) by decide)] at H; exact H
                  clear H
                  have H := H1
                  clear H1
                  have H' := Aside0.mk H
                  clear H
                  have hnb66 := NB397_423.out
                  have hnc66 := NB423_397.out
                  have hcz67_0 : w44.cell? ⟨gb397, 0, none⟩ = some (.bool a0_0) := (blk_cell BK397.out 0).trans rfl
                  have hcz67_1 : w44.cell? ⟨gb397, 1, none⟩ = some (.int .i64 a0_1) := (blk_cell BK397.out 1).trans rfl
                  have hcz67_2 : w44.cell? ⟨gb397, 2, none⟩ = some (.bool a0_2) := (blk_cell BK397.out 2).trans rfl
                  have hcz67_3 : w44.cell? ⟨gb397, 3, none⟩ = some (.int .i64 a0_3) := (blk_cell BK397.out 3).trans rfl
                  have hcz67_4 : w44.cell? ⟨gb397, 4, none⟩ = some (.slice A0_4 l0_4.length c0_4) := (blk_cell BK397.out 4).trans rfl
                  have hfz67_0 := blk_frozen BK397.out 0
                  have hfz67_1 := blk_frozen BK397.out 1
                  have hfz67_2 := blk_frozen BK397.out 2
                  have hfz67_3 := blk_frozen BK397.out 3
                  have hfz67_4 := blk_frozen BK397.out 4
                  have hcz68_0 : w44.cell? ⟨gb423, 0, none⟩ = some (.bool false) := (blk_cell BK423.out 0).trans rfl
                  have hcz68_1 : w44.cell? ⟨gb423, 1, none⟩ = some (.int .i64 0) := (blk_cell BK423.out 1).trans rfl
                  have hcz68_2 : w44.cell? ⟨gb423, 2, none⟩ = some (.bool false) := (blk_cell BK423.out 2).trans rfl
                  have hcz68_3 : w44.cell? ⟨gb423, 3, none⟩ = some (.int .i64 0) := (blk_cell BK423.out 3).trans rfl
                  have hcz68_4 : w44.cell? ⟨gb423, 4, none⟩ = some (.slice none 0 0) := (blk_cell BK423.out 4).trans rfl
                  have hfz68_0 := blk_frozen BK423.out 0
                  have hfz68_1 := blk_frozen BK423.out 1
                  have hfz68_2 := blk_frozen BK423.out 2
                  have hfz68_3 := blk_frozen BK423.out 3
                  have hfz68_4 := blk_frozen BK423.out 4
                  go_wp2_with (first | ((with_reducible refine gate_store (t := 24) (p := 9) rfl ?_); refine HW.store_box rfl rfl 24 _ _ rfl rfl rfl BK423.out rfl (by kernel_rfl) (by intro q hq; simp only [List.mem_cons, List.not_mem_nil, or_false] at hq; rcases hq with rfl | rfl | rfl | rfl | rfl <;> rfl) ?_; intro w1_ hw1_; simp only [List.toList_toArray, World.setCells, Nat.zero_add, Nat.reduceAdd] at hw1_; subst hw1_) | ((with_reducible refine gate_store (t := 24) (p := 3) rfl ?_); refine HW.store_box rfl rfl 24 _ _ rfl rfl rfl BK397.out rfl (by kernel_rfl) (by intro q hq; simp only [List.mem_cons, List.not_mem_nil, or_false] at hq; rcases hq with rfl | rfl | rfl | rfl | rfl <;> rfl) ?_; intro w1_ hw1_; simp only [List.toList_toArray, World.setCells, Nat.zero_add, Nat.reduceAdd] at hw1_; subst hw1_) | (go_at_call 15; (with_reducible refine (phaetonref04_Same.calls a0_0 a0_1 a0_2 a0_3 _ _ l0_4 t414 t415 t416 t417 _ _ t418 false _ ?side1 ?side2 ?side3 ?side4 A49.out).mono ?_); (case side1 => exact Kd.C_below HR0_4.out (by repeat (first | (with_reducible first | exact HB.out | apply below_alloc | apply pw_below_drewN | apply below_drew1 | refine below_set ?_ GE397.out | refine below_set ?_ GE423.out) | exact HB.out))); (case side2 => exact HC0_4.out); (case side3 => refine (Kd.R_reads' (e := 5) (base := w.heap.size) (ok := fun k_ => True) (n := t418.length) (c := co47) ?_).2.2; exact (by (with_reducible repeat (first | apply Kd.R_alloc | apply Kd.R_drewN | apply Kd.R_drew)); exact (Kd.R_mono (Kd.R_far (p := ⟨gb423, 4, none⟩) (Kd.R_far (p := ⟨gb423, 3, none⟩) (Kd.R_far (p := ⟨gb423, 2, none⟩) (Kd.R_far (p := ⟨gb423, 1, none⟩) (Kd.R_far (p := ⟨gb423, 0, none⟩) (Kd.R_types HO420.out BK423.out (by decide)) (fun _ hk => hk.2) (.bool t414)) (fun _ hk => hk.2) (.int .i64 t415)) (fun _ hk => hk.2) (.bool t416)) (fun _ hk => hk.2) (.int .i64 t417)) (fun _ hk => hk.2) (.slice Ao47 t418.length co47)) (fun _ h_ => h_.1)))); (case side4 => exact (Kd.R_reads' HO420.out).2.1); rintro e w69 ⟨rfl, hb⟩; have n0_ := Aside0.mk (Kd.R_below (by (with_reducible repeat (first | apply Kd.R_alloc | apply Kd.R_drewN | apply Kd.R_drew)); exact (Kd.R_mono (Kd.R_far (p := ⟨gb423, 4, none⟩) (Kd.R_far (p := ⟨gb423, 3, none⟩) (Kd.R_far (p := ⟨gb423, 2, none⟩) (Kd.R_far (p := ⟨gb423, 1, none⟩) (Kd.R_far (p := ⟨gb423, 0, none⟩) (Kd.R_types HO404.out BK423.out (by decide)) (fun _ hk => hk.2) (.bool t414)) (fun _ hk => hk.2) (.int .i64 t415)) (fun _ hk => hk.2) (.bool t416)) (fun _ hk => hk.2) (.int .i64 t417)) (fun _ hk => hk.2) (.slice Ao47 t418.length co47)) (fun _ h_ => h_.1))) hb); have n1_ := Aside0.mk (Kd.R_below (by (with_reducible repeat (first | apply Kd.R_alloc | apply Kd.R_drewN | apply Kd.R_drew)); exact (Kd.R_mono (Kd.R_far (p := ⟨gb423, 4, none⟩) (Kd.R_far (p := ⟨gb423, 3, none⟩) (Kd.R_far (p := ⟨gb423, 2, none⟩) (Kd.R_far (p := ⟨gb423, 1, none⟩) (Kd.R_far (p := ⟨gb423, 0, none⟩) (Kd.R_types HO413.out BK423.out (by decide)) (fun _ hk => hk.2) (.bool t414)) (fun _ hk => hk.2) (.int .i64 t415)) (fun _ hk => hk.2) (.bool t416)) (fun _ hk => hk.2) (.int .i64 t417)) (fun _ hk => hk.2) (.slice Ao47 t418.length co47)) (fun _ h_ => h_.1))) hb); have n2_ := Aside0.mk (Kd.R_below (by (with_reducible repeat (first | apply Kd.R_alloc | apply Kd.R_drewN | apply Kd.R_drew)); exact (Kd.R_mono (Kd.R_far (p := ⟨gb423, 4, none⟩) (Kd.R_far (p := ⟨gb423, 3, none⟩) (Kd.R_far (p := ⟨gb423, 2, none⟩) (Kd.R_far (p := ⟨gb423, 1, none⟩) (Kd.R_far (p := ⟨gb423, 0, none⟩) (Kd.R_types HO420.out BK423.out (by decide)) (fun _ hk => hk.2) (.bool t414)) (fun _ hk => hk.2) (.int .i64 t415)) (fun _ hk => hk.2) (.bool t416)) (fun _ hk => hk.2) (.int .i64 t417)) (fun _ hk => hk.2) (.slice Ao47 t418.length co47)) (fun _ h_ => h_.1))) hb); have n3_ := Aside0.mk (blk_below (g := gb397) (o := .cells #[.bool a0_0, .int .i64 a0_1, .bool a0_2, .int .i64 a0_3, .slice A0_4 l0_4.length c0_4] 24 (0, 0)) (by (with_reducible repeat (first | refine blk_drewN ?_ _ | refine blk_drew ?_ | refine blk_alloc ?_ _)); refine blk_far ?_ NB397_423.out _; (with_reducible repeat (first | refine blk_drewN ?_ _ | refine blk_drew ?_ | refine blk_alloc ?_ _)); refine blk_far ?_ NB397_423.out _; (with_reducible repeat (first | refine blk_drewN ?_ _ | refine blk_drew ?_ | refine blk_alloc ?_ _)); refine blk_far ?_ NB397_423.out _; (with_reducible repeat (first | refine blk_drewN ?_ _ | refine blk_drew ?_ | refine blk_alloc ?_ _)); refine blk_far ?_ NB397_423.out _; (with_reducible repeat (first | refine blk_drewN ?_ _ | refine blk_drew ?_ | refine blk_alloc ?_ _)); refine blk_far ?_ NB397_423.out _; (with_reducible repeat (first | refine blk_drewN ?_ _ | refine blk_drew ?_ | refine blk_alloc ?_ _)); exact BK397.out) hb); have n4_ := Aside0.mk (blk_below (g := gb423) (o := .cells #[.bool t414, .int .i64 t415, .bool t416, .int .i64 t417, .slice Ao47 t418.length co47] 24 (0, 0)) (by (with_reducible repeat (first | refine blk_drewN ?_ _ | refine blk_drew ?_ | refine blk_alloc ?_ _)); refine blk_put (cs := #[.bool t414, .int .i64 t415, .bool t416, .int .i64 t417, .slice none 0 0]) ?_ 4 _ rfl; (with_reducible repeat (first | refine blk_drewN ?_ _ | refine blk_drew ?_ | refine blk_alloc ?_ _)); refine blk_put (cs := #[.bool t414, .int .i64 t415, .bool t416, .int .i64 0, .slice none 0 0]) ?_ 3 _ rfl; (with_reducible repeat (first | refine blk_drewN ?_ _ | refine blk_drew ?_ | refine blk_alloc ?_ _)); refine blk_put (cs := #[.bool t414, .int .i64 t415, .bool false, .int .i64 0, .slice none 0 0]) ?_ 2 _ rfl; (with_reducible repeat (first | refine blk_drewN ?_ _ | refine blk_drew ?_ | refine blk_alloc ?_ _)); refine blk_put (cs := #[.bool t414, .int .i64 0, .bool false, .int .i64 0, .slice none 0 0]) ?_ 1 _ rfl; (with_reducible repeat (first | refine blk_drewN ?_ _ | refine blk_drew ?_ | refine blk_alloc ?_ _)); refine blk_put (cs := #[.bool false, .int .i64 0, .bool false, .int .i64 0, .slice none 0 0]) ?_ 0 _ rfl; (with_reducible repeat (first | refine blk_drewN ?_ _ | refine blk_drew ?_ | refine blk_alloc ?_ _)); exact BK423.out) hb); have n5_ := Aside0.mk (below_step (by repeat (first | (with_reducible first | exact HB.out | apply below_alloc | apply pw_below_drewN | apply below_drew1 | refine below_set ?_ GE397.out | refine below_set ?_ GE423.out) | exact HB.out)) hb); clear HO404; clear HO413; clear HO420; clear BK397; clear BK423; clear HB; have HO404 := n0_; have HO413 := n1_; have HO420 := n2_; have BK397 := n3_; have BK423 := n4_; have HB := n5_; clear n0_ n1_ n2_ n3_ n4_ n5_; (try clear hb); (try clear hb2); (try clear hk); (try clear hi)))
                  go_meet
                  case rel => exact ⟨_, (true), (by first | rfl | (simp; done) | (simp [*]; done)), H', ⟨by have := HJ4.out; first | omega | exact Nat.le_refl _⟩, ⟨by (with_reducible repeat (first | apply Kd.R_alloc | apply Kd.R_drewN | apply Kd.R_drew)); exact Kd.R_mono HO404.out (fun _ hk => trivial)⟩, ⟨by (with_reducible repeat (first | apply Kd.R_alloc | apply Kd.R_drewN | apply Kd.R_drew)); exact HO420.out⟩, ⟨by (with_reducible repeat (first | refine blk_drewN ?_ _ | refine blk_drew ?_ | refine blk_alloc ?_ _)); exact BK397.out⟩, ⟨by (with_reducible repeat (first | refine blk_drewN ?_ _ | refine blk_drew ?_ | refine blk_alloc ?_ _)); exact BK423.out⟩, ⟨by repeat (first | (with_reducible first | exact HB.out | apply below_alloc | apply pw_below_drewN | apply below_drew1 | refine below_set ?_ GE397.out | refine below_set ?_ GE423.out) | exact HB.out)⟩⟩
            case rest =>
              clear HC34
              try clear c1
              try clear c2
              try clear p2
              try clear c3
              try clear c4
              try clear c5
              try clear c6
              try clear c9
              try clear c10
              try clear c11
              try clear c13
              try clear c14
              try clear c14b0
              try clear c14b1
              try clear c17
              try clear c22
              try clear c28
              try clear c29
              try clear c31
              try clear c32
              try clear c45
              try clear c48
              try clear c48b0
              try clear c48b1
              try clear c48b2
              try clear c50
              try clear c51
              try clear c51b0
              try clear c51b1
              try clear c52
              try clear c52b0
              try clear c52b1
              try clear c54
              try clear c58
              try clear c62
              try clear c66
              try clear hcz10_0
              try clear hcz10_1
              try clear hcz10_2
              try clear hcz10_3
              try clear hcz10_4
              try clear hcz15_0
              try clear hcz15_1
              try clear hcz15_2
              try clear hcz15_3
              try clear hcz15_4
              try clear hcz17_0
              try clear hcz17_1
              try clear hcz17_2
              try clear hcz17_3
              try clear hcz17_4
              try clear hcz20_0
              try clear hcz20_1
              try clear hcz20_2
              try clear hcz20_3
              try clear hcz20_4
              try clear hcz22_0
              try clear hcz22_1
              try clear hcz22_2
              try clear hcz22_3
              try clear hcz22_4
              try clear hcz24_0
              try clear hcz24_1
              try clear hcz24_2
              try clear hcz24_3
              try clear hcz24_4
              try clear hcz26_0
              try clear hcz26_1
              try clear hcz26_2
              try clear hcz26_3
              try clear hcz26_4
              try clear hcz35_0
              try clear hcz35_1
              try clear hcz35_2
              try clear hcz35_3
              try clear hcz35_4
              try clear hcz46_0
              try clear hcz46_1
              try clear hcz46_2
              try clear hcz46_3
              try clear hcz46_4
              try clear hcz55_0
              try clear hcz55_1
              try clear hcz55_2
              try clear hcz55_3
              try clear hcz55_4
              try clear hcz56_0
              try clear hcz56_1
              try clear hcz56_2
              try clear hcz56_3
              try clear hcz56_4
              try clear hcz59_0
              try clear hcz59_1
              try clear hcz59_2
              try clear hcz59_3
              try clear hcz59_4
              try clear hcz60_0
              try clear hcz60_1
              try clear hcz60_2
              try clear hcz60_3
              try clear hcz60_4
              try clear hcz63_0
              try clear hcz63_1
              try clear hcz63_2
              try clear hcz63_3
              try clear hcz63_4
              try clear hcz64_0
              try clear hcz64_1
              try clear hcz64_2
              try clear hcz64_3
              try clear hcz64_4
              try clear hcz67_0
              try clear hcz67_1
              try clear hcz67_2
              try clear hcz67_3
              try clear hcz67_4
              try clear hcz68_0
              try clear hcz68_1
              try clear hcz68_2
              try clear hcz68_3
              try clear hcz68_4
              try clear hfz10_0
              try clear hfz10_1
              try clear hfz10_2
              try clear hfz10_3
              try clear hfz10_4
              try clear hfz15_0
              try clear hfz15_1
              try clear hfz15_2
              try clear hfz15_3
              try clear hfz15_4
              try clear hfz17_0
              try clear hfz17_1
              try clear hfz17_2
              try clear hfz17_3
              try clear hfz17_4
              try clear hfz20_0
              try clear hfz20_1
              try clear hfz20_2
              try clear hfz20_3
              try clear hfz20_4
              try clear hfz22_0
              try clear hfz22_1
              try clear hfz22_2
              try clear hfz22_3
              try clear hfz22_4
              try clear hfz24_0
              try clear hfz24_1
              try clear hfz24_2
              try clear hfz24_3
              try clear hfz24_4
              try clear hfz26_0
              try clear hfz26_1
              try clear hfz26_2
              try clear hfz26_3
              try clear hfz26_4
              try clear hfz35_0
              try clear hfz35_1
              try clear hfz35_2
              try clear hfz35_3
              try clear hfz35_4
              try clear hfz46_0
              try clear hfz46_1
              try clear hfz46_2
              try clear hfz46_3
              try clear hfz46_4
              try clear hfz55_0
              try clear hfz55_1
              try clear hfz55_2
              try clear hfz55_3
              try clear hfz55_4
              try clear hfz56_0
              try clear hfz56_1
              try clear hfz56_2
              try clear hfz56_3
              try clear hfz56_4
              try clear hfz59_0
              try clear hfz59_1
              try clear hfz59_2
              try clear hfz59_3
              try clear hfz59_4
              try clear hfz60_0
              try clear hfz60_1
              try clear hfz60_2
              try clear hfz60_3
              try clear hfz60_4
              try clear hfz63_0
              try clear hfz63_1
              try clear hfz63_2
              try clear hfz63_3
              try clear hfz63_4
              try clear hfz64_0
              try clear hfz64_1
              try clear hfz64_2
              try clear hfz64_3
              try clear hfz64_4
              try clear hfz67_0
              try clear hfz67_1
              try clear hfz67_2
              try clear hfz67_3
              try clear hfz67_4
              try clear hfz68_0
              try clear hfz68_1
              try clear hfz68_2
              try clear hfz68_3
              try clear hfz68_4
              try clear p2
              obtain ⟨kq, x69_33, rfl, HA, HJ33, HO_8, HO_424004, BK397, BK423, HB⟩ := hcut
              cases kq with
              | zero => exact absurd HA.out (by simp [phaetonlaw04_FrameBack.j1])
              | succ kj33 =>
                have H := HA.out
                clear HA
                simp only [phaetonlaw04_FrameBack.j1] at H
                by_cases c70 : x69_33 = true
                · subst c70
                  have H1 : (none) = some r := by rw [if_pos rfl] at H; exact H
                  clear H
                  have H := H1
                  clear H1
                  exact absurd H (by simp)
                · replace c70 := Bool.eq_false_iff.mpr c70
                  subst c70
                  have H1 : (if (t402.length : Int) = 0 then (none) else (if 0 ≤ (Int.tmod (wrap64 (a2)) (t402.length : Int)) then (if (Int.tmod (wrap64 (a2)) (t402.length : Int)) ≤ (t402.length : Int) then ((frame_Read.f (t402.take ((Int.tmod (wrap64 (a2)) (t402.length : Int)) : Int).toNat)).bind fun bt430 => (if t398 = true then ((phaetonref04_Same.f bt430.1 bt430.2.1 bt430.2.2.1 bt430.2.2.2.1 bt430.2.2.2.2.1 false 0 false 0 ([] : List Int)).bind fun t440 => (if t440 = true then (if bt430.2.2.2.2.2.1 = 0 then (if bt430.2.2.2.2.2.2 = 40 then (some true) else (none)) else (none)) else (none))) else (none))) else (none)) else (none))) = some r := by rw [if_neg (show ¬ (false = true) by decide)] at H; exact H
                  clear H
                  have H := H1
                  clear H1
                  by_cases c71 : (t402.length : Int) = 0
                  · rw [if_pos c71] at H
                    exact absurd H (by simp)
                  · rw [if_neg c71] at H
                    have c71b0 : ((t402.length : Int) == 0) = false := beq_eq_false_iff_ne.mpr c71
                    have c71b1 : ((t402.length : Int) != 0) = true := bne_iff_ne.mpr c71
                    have c71b2 : ¬ (t402 = []) := fun h_ => c71 (by rw [h_]; rfl)
                    obtain ⟨ji72, hji72⟩ : ∃ j_ : Int, (Int.tmod (wrap64 (a2)) (t402.length : Int)) = j_ := ⟨_, rfl⟩
                    replace H : (if 0 ≤ (ji72) then (if (ji72) ≤ (t402.length : Int) then ((frame_Read.f (t402.take ((ji72) : Int).toNat)).bind fun bt430 => (if t398 = true then ((phaetonref04_Same.f bt430.1 bt430.2.1 bt430.2.2.1 bt430.2.2.2.1 bt430.2.2.2.2.1 false 0 false 0 ([] : List Int)).bind fun t440 => (if t440 = true then (if bt430.2.2.2.2.2.1 = 0 then (if bt430.2.2.2.2.2.2 = 40 then (some true) else (none)) else (none)) else (none))) else (none))) else (none)) else (none)) = some r := by first | (rw [hji72] at H; exact H) | (simp only [hji72] at H ⊢; exact H)
                    by_cases c73 : 0 ≤ (ji72)
                    · rw [if_pos c73] at H
                      have c73b0 := eq_true c73
                      have c73b1 : decide (0 ≤ (ji72)) = true := decide_eq_true c73
                      have c73m : max (ji72) 0 = (ji72) := by omega
                      clear c73
                      by_cases c74 : (ji72) ≤ (t402.length : Int)
                      · rw [if_pos c74] at H
                        have c74b0 := eq_true c74
                        have c74b1 : decide ((ji72) ≤ (t402.length : Int)) = true := decide_eq_true c74
                        clear c74
                        obtain ⟨y426, hy426⟩ : ∃ y_ : List Int, y_ = (t402.take ((ji72) : Int).toNat) := ⟨_, rfl⟩
                        replace H : ((frame_Read.f y426).bind fun bt430 => (if t398 = true then ((phaetonref04_Same.f bt430.1 bt430.2.1 bt430.2.2.1 bt430.2.2.2.1 bt430.2.2.2.2.1 false 0 false 0 ([] : List Int)).bind fun t440 => (if t440 = true then (if bt430.2.2.2.2.2.1 = 0 then (if bt430.2.2.2.2.2.2 = 40 then (some true) else (none)) else (none)) else (none))) else (none))) = some r := by first | (rw [hy426]; with_reducible exact H) | (have H2_ := (Option.bind_some _ _).symm.trans H; rw [hy426]; with_reducible exact H2_) | (have H2_ := (Option.bind_some _ _).symm.trans H; with_reducible exact H2_) | with_reducible exact H | (rw [hy426]; exact H) | exact H
                        have Ny426 := Aside0.mk hy426
                        clear hy426
                        replace H := Option.bind_eq_some_iff.mp H
                        obtain ⟨⟨t430, t431, t432, t433, t434, t437, t438⟩, A750, H⟩ := H
                        replace H : (if t398 = true then ((phaetonref04_Same.f t430 t431 t432 t433 t434 false 0 false 0 ([] : List Int)).bind fun t440 => (if t440 = true then (if t437 = 0 then (if t438 = 40 then (some true) else (none)) else (none)) else (none))) else (none)) = some r := H
                        have A75 := Aside0.mk A750
                        clear A750
                        by_cases c76 : t398 = true
                        · subst c76
                          have H1 : ((phaetonref04_Same.f t430 t431 t432 t433 t434 false 0 false 0 ([] : List Int)).bind fun t440 => (if t440 = true then (if t437 = 0 then (if t438 = 40 then (some true) else (none)) else (none)) else (none))) = some r := by rw [if_pos rfl] at H; exact H
                          clear H
                          have H := H1
                          clear H1
                          replace H := Option.bind_eq_some_iff.mp H
                          obtain ⟨t440, A770, H⟩ := H
                          replace H : (if t440 = true then (if t437 = 0 then (if t438 = 40 then (some true) else (none)) else (none)) else (none)) = some r := H
                          have A77 := Aside0.mk A770
                          clear A770
                          by_cases c78 : t440 = true
                          · subst c78
                            have H1 : (if t437 = 0 then (if t438 = 40 then (some true) else (none)) else (none)) = some r := by rw [if_pos rfl] at H; exact H
                            clear H
                            have H := H1
                            clear H1
                            by_cases c79 : t437 = 0
                            · rw [if_pos c79] at H
                              have c79b0 : (t437 == 0) = true := beq_iff_eq.mpr c79
                              have c79b1 : (t437 != 0) = false := bne_eq_false_iff_eq.mpr c79
                              clear c79
                              by_cases c80 : t438 = 40
                              · rw [if_pos c80] at H
                                have c80b0 : (t438 == 40) = true := beq_iff_eq.mpr c80
                                have c80b1 : (t438 != 40) = false := bne_eq_false_iff_eq.mpr c80
                                clear c80
                                obtain rfl := Option.some.inj H
                                have q81 : ((ji72) : Int) ≤ ((t402.length : Int) : Int) := of_decide_eq_true (by first | (with_reducible assumption) | assumption)
                                obtain ⟨i081, hi081, _, hsz81, _⟩ := info_parts info3
                                have hroom81 : t402.length ≤ co40 := (Kd.R_reads' HO_8.out).2.1
                                have hC81 : Kd.C (Kd.int .i64) _ Ao40 t402.length t402 := (Kd.R_reads' HO_8.out).2.2
                                have hcut81 := cut_to (P := Try.prog) 25 3 .i64 Try.underlying25 hi081 Ao40 t402.length co40 (ji72) (of_decide_eq_true (by first | (with_reducible assumption) | assumption)) q81 hroom81
                                have hr81 := Kd.C_take (m := ((ji72) : Int).toNat) hC81 (by omega)
                                have hy81 : y426.length = ((ji72) : Int).toNat := (by rw [Ny426.out, List.length_take]; omega)
                                rw [← Ny426.out] at hr81
                                rw [← hy81] at hcut81
                                have HR429 := Aside0.mk hr81
                                have HC429 := Aside0.mk (show y426.length ≤ co40 from by omega)
                                clear hr81 hC81 hroom81 hi081 hsz81
                                have KY81 := Aside0.mk hy81
                                clear hy81
                                have KL81 := Aside0.mk (show ((ji72) : Int).toNat ≤ t402.length from by omega)
                                replace q81 := eq_true q81
                                go_wp2_with (first | ((with_reducible refine gate_store (t := 24) (p := 12) rfl ?_); refine HW.store_box rfl rfl 24 _ _ rfl rfl rfl BK439.out rfl (by kernel_rfl) (by intro q hq; simp only [List.mem_cons, List.not_mem_nil, or_false] at hq; rcases hq with rfl | rfl | rfl | rfl | rfl <;> rfl) ?_; intro w1_ hw1_; simp only [List.toList_toArray, World.setCells, Nat.zero_add, Nat.reduceAdd] at hw1_; subst hw1_) | ((with_reducible refine gate_store (t := 24) (p := 9) rfl ?_); refine HW.store_box rfl rfl 24 _ _ rfl rfl rfl BK423.out rfl (by kernel_rfl) (by intro q hq; simp only [List.mem_cons, List.not_mem_nil, or_false] at hq; rcases hq with rfl | rfl | rfl | rfl | rfl <;> rfl) ?_; intro w1_ hw1_; simp only [List.toList_toArray, World.setCells, Nat.zero_add, Nat.reduceAdd] at hw1_; subst hw1_) | ((with_reducible refine gate_store (t := 24) (p := 3) rfl ?_); refine HW.store_box rfl rfl 24 _ _ rfl rfl rfl BK397.out rfl (by kernel_rfl) (by intro q hq; simp only [List.mem_cons, List.not_mem_nil, or_false] at hq; rcases hq with rfl | rfl | rfl | rfl | rfl <;> rfl) ?_; intro w1_ hw1_; simp only [List.toList_toArray, World.setCells, Nat.zero_add, Nat.reduceAdd] at hw1_; subst hw1_) | ((with_reducible refine gate_callee (f := 22) rfl ?_); refine goesL_ (some 78) rfl rfl Try.func22 (by kernel_rfl) rfl #[.slice Ao40 y426.length co40] rfl (by (try simp only [List.map_toArray, List.map_cons, List.map_nil]); first | done | rfl | (simp only [List.length_drop, List.length_take]; rfl)) ?_; (with_reducible refine (frame_Read.calls _ _ y426 t430 t431 t432 t433 t434 t437 t438 _ ?side1 ?side2 A75.out).mono ?_); (case side1 => repeat (first | exact (by repeat (first | (with_reducible exact HR429.out) | (with_reducible refine Kd.C_alloc ?_ _) | (with_reducible refine Kd.C_drewN ?_ _) | (with_reducible refine Kd.C_drew ?_) | exact HR429.out)) | (with_reducible refine Kd.C_alloc ?_ _) | (with_reducible refine Kd.C_drewN ?_ _) | (with_reducible refine Kd.C_drew ?_))); (case side2 => exact HC429.out); rintro e w82 ⟨v435, rfl, ho0, hb⟩; refine ⟨_, rfl, ?_⟩; have n0_ := Aside0.mk (Kd.R_below (by (with_reducible repeat (first | apply Kd.R_alloc | apply Kd.R_drewN | apply Kd.R_drew)); exact HO_8.out) hb); have n1_ := Aside0.mk (Kd.R_elder' (by (with_reducible repeat (first | apply Kd.R_alloc | apply Kd.R_drewN | apply Kd.R_drew)); exact HO_424004.out) (Kd.R_base ho0) hb); have n2_ := Aside0.mk (Kd.R_lower (Kd.R_new' ho0 (Kd.R_lt (by (with_reducible repeat (first | apply Kd.R_alloc | apply Kd.R_drewN | apply Kd.R_drew)); exact HO_424004.out))) (below_size (by repeat (first | (with_reducible first | exact HB.out | apply below_alloc | apply pw_below_drewN | apply below_drew1 | refine below_set ?_ GE397.out | refine below_set ?_ GE423.out) | exact HB.out)))); have n3_ := Aside0.mk (blk_below (g := gb397) (o := .cells #[.bool a0_0, .int .i64 a0_1, .bool a0_2, .int .i64 a0_3, .slice A0_4 l0_4.length c0_4] 24 (0, 0)) (by (with_reducible repeat (first | refine blk_drewN ?_ _ | refine blk_drew ?_ | refine blk_alloc ?_ _)); exact BK397.out) hb); have n4_ := Aside0.mk (blk_below (g := gb423) (o := .cells #[.bool t414, .int .i64 t415, .bool t416, .int .i64 t417, .slice Ao47 t418.length co47] 24 (0, 0)) (by (with_reducible repeat (first | refine blk_drewN ?_ _ | refine blk_drew ?_ | refine blk_alloc ?_ _)); exact BK423.out) hb); have n5_ := Aside0.mk (Kd.C_below (by repeat (first | (with_reducible exact HR429.out) | (with_reducible refine Kd.C_alloc ?_ _) | (with_reducible refine Kd.C_drewN ?_ _) | (with_reducible refine Kd.C_drew ?_) | exact HR429.out)) hb); have n6_ := Aside0.mk (below_step (by repeat (first | (with_reducible first | exact HB.out | apply below_alloc | apply pw_below_drewN | apply below_drew1 | refine below_set ?_ GE397.out | refine below_set ?_ GE423.out) | exact HB.out)) hb); clear HO_8; clear HO_424004; clear BK397; clear BK423; clear HR429; clear HB; have HO_8 := n0_; have HO_424004 := n1_; have HO436 := n2_; have BK397 := n3_; have BK423 := n4_; have HR429 := n5_; have HB := n6_; clear n0_ n1_ n2_ n3_ n4_ n5_ n6_; (try clear hb); (try clear hb2); (try clear hk); (try clear hi); (try clear ho0)) | ((with_reducible refine gate_dst (N := 12) rfl ?_); (try (refine gate_guard (by rfl) ?_; dsimp only)); refine box_event ?hg (N := 12) ?hd (cs := #[.bool false, .int .i64 0, .bool false, .int .i64 0, .slice none 0 0]) (t := 24) ?hr ?_; (case hd => rfl); (case hg => rfl); (case hr => first | (go_simp; done) | (go_simp; rfl)); intro gb439 hg w83 hbox hb; have n0_ := Aside0.mk (Kd.R_below (by (with_reducible repeat (first | apply Kd.R_alloc | apply Kd.R_drewN | apply Kd.R_drew)); exact HO_8.out) hb); have n1_ := Aside0.mk (Kd.R_below (by (with_reducible repeat (first | apply Kd.R_alloc | apply Kd.R_drewN | apply Kd.R_drew)); exact HO_424004.out) hb); have n2_ := Aside0.mk (Kd.R_below (by (with_reducible repeat (first | apply Kd.R_alloc | apply Kd.R_drewN | apply Kd.R_drew)); exact HO436.out) hb); have n3_ := Aside0.mk (blk_below (g := gb397) (o := .cells #[.bool a0_0, .int .i64 a0_1, .bool a0_2, .int .i64 a0_3, .slice A0_4 l0_4.length c0_4] 24 (0, 0)) (by (with_reducible repeat (first | refine blk_drewN ?_ _ | refine blk_drew ?_ | refine blk_alloc ?_ _)); exact BK397.out) hb); have n4_ := Aside0.mk (blk_below (g := gb423) (o := .cells #[.bool t414, .int .i64 t415, .bool t416, .int .i64 t417, .slice Ao47 t418.length co47] 24 (0, 0)) (by (with_reducible repeat (first | refine blk_drewN ?_ _ | refine blk_drew ?_ | refine blk_alloc ?_ _)); exact BK423.out) hb); have n5_ := Aside0.mk (Kd.C_below (by repeat (first | (with_reducible exact HR429.out) | (with_reducible refine Kd.C_alloc ?_ _) | (with_reducible refine Kd.C_drewN ?_ _) | (with_reducible refine Kd.C_drew ?_) | exact HR429.out)) hb); have n6_ := Aside0.mk (below_step (by repeat (first | (with_reducible first | exact HB.out | apply below_alloc | apply pw_below_drewN | apply below_drew1 | refine below_set ?_ GE397.out | refine below_set ?_ GE423.out) | exact HB.out)) hb); have n7_ := Aside0.mk (hbox); have n8_ := Aside0.mk ((by rw [hg]; exact (below_size (by repeat (first | (with_reducible first | exact HB.out | apply below_alloc | apply pw_below_drewN | apply below_drew1 | refine below_set ?_ GE397.out | refine below_set ?_ GE423.out) | exact HB.out))) : w.heap.size ≤ gb439)); have n9_ := Aside0.mk ((by rw [hg]; exact (below_size (by repeat (first | (with_reducible first | exact HB.out | apply below_alloc | apply pw_below_drewN | apply below_drew1 | refine below_set ?_ GE397.out | refine below_set ?_ GE423.out) | exact HB.out))) : w.heap.size ≤ gb439)); have n10_ := Aside0.mk ((by rw [hg]; exact Nat.ne_of_lt (blk_lt (g := gb397) (o := .cells #[.bool a0_0, .int .i64 a0_1, .bool a0_2, .int .i64 a0_3, .slice A0_4 l0_4.length c0_4] 24 (0, 0)) (by (with_reducible repeat (first | refine blk_drewN ?_ _ | refine blk_drew ?_ | refine blk_alloc ?_ _)); exact BK397.out)) : gb397 ≠ gb439)); have n11_ := Aside0.mk ((by rw [hg]; exact Nat.ne_of_gt (blk_lt (g := gb397) (o := .cells #[.bool a0_0, .int .i64 a0_1, .bool a0_2, .int .i64 a0_3, .slice A0_4 l0_4.length c0_4] 24 (0, 0)) (by (with_reducible repeat (first | refine blk_drewN ?_ _ | refine blk_drew ?_ | refine blk_alloc ?_ _)); exact BK397.out)) : gb439 ≠ gb397)); have n12_ := Aside0.mk ((by rw [hg]; exact Nat.ne_of_lt (blk_lt (g := gb423) (o := .cells #[.bool t414, .int .i64 t415, .bool t416, .int .i64 t417, .slice Ao47 t418.length co47] 24 (0, 0)) (by (with_reducible repeat (first | refine blk_drewN ?_ _ | refine blk_drew ?_ | refine blk_alloc ?_ _)); exact BK423.out)) : gb423 ≠ gb439)); have n13_ := Aside0.mk ((by rw [hg]; exact Nat.ne_of_gt (blk_lt (g := gb423) (o := .cells #[.bool t414, .int .i64 t415, .bool t416, .int .i64 t417, .slice Ao47 t418.length co47] 24 (0, 0)) (by (with_reducible repeat (first | refine blk_drewN ?_ _ | refine blk_drew ?_ | refine blk_alloc ?_ _)); exact BK423.out)) : gb439 ≠ gb423)); clear HO_8; clear HO_424004; clear HO436; clear BK397; clear BK423; clear HR429; clear HB; have HO_8 := n0_; have HO_424004 := n1_; have HO436 := n2_; have BK397 := n3_; have BK423 := n4_; have HR429 := n5_; have HB := n6_; have BK439 := n7_; have GW439 := n8_; have GE439 := n9_; have NB397_439 := n10_; have NB439_397 := n11_; have NB423_439 := n12_; have NB439_423 := n13_; clear n0_ n1_ n2_ n3_ n4_ n5_ n6_ n7_ n8_ n9_ n10_ n11_ n12_ n13_; clear hb hbox hg; have hnb84 := NB439_397.out; have hnc84 := NB397_439.out; have hnb85 := NB439_423.out; have hnc85 := NB423_439.out; have hcz86_0 : w83.cell? ⟨gb439, 0, none⟩ = some (.bool false) := (blk_cell BK439.out 0).trans rfl; have hcz86_1 : w83.cell? ⟨gb439, 1, none⟩ = some (.int .i64 0) := (blk_cell BK439.out 1).trans rfl; have hcz86_2 : w83.cell? ⟨gb439, 2, none⟩ = some (.bool false) := (blk_cell BK439.out 2).trans rfl; have hcz86_3 : w83.cell? ⟨gb439, 3, none⟩ = some (.int .i64 0) := (blk_cell BK439.out 3).trans rfl; have hcz86_4 : w83.cell? ⟨gb439, 4, none⟩ = some (.slice none 0 0) := (blk_cell BK439.out 4).trans rfl; have hfz86_0 := blk_frozen BK439.out 0; have hfz86_1 := blk_frozen BK439.out 1; have hfz86_2 := blk_frozen BK439.out 2; have hfz86_3 := blk_frozen BK439.out 3; have hfz86_4 := blk_frozen BK439.out 4; obtain ⟨Ao87, co87, eo87⟩ := Kd.R_slice HO436.out; subst eo87) | (go_at_call 15; (refine (phaetonref04_Same.calls t430 t431 t432 t433 _ _ t434 false 0 false 0 _ _ ([] : List Int) true _ ?side1 ?side2 ?side3 ?side4 A77.out).mono ?_); (case side1 => refine (Kd.R_reads' (e := 5) (base := w.heap.size) (ok := fun k_ => (True ∧ some k_ ≠ (.slice Ao47 t418.length co47 : Value).ownBlock)) (n := t434.length) (c := co87) ?_).2.2; exact (by (with_reducible repeat (first | apply Kd.R_alloc | apply Kd.R_drewN | apply Kd.R_drew)); exact (Kd.R_mono (Kd.R_far (p := ⟨gb439, 4, none⟩) (Kd.R_far (p := ⟨gb439, 3, none⟩) (Kd.R_far (p := ⟨gb439, 2, none⟩) (Kd.R_far (p := ⟨gb439, 1, none⟩) (Kd.R_far (p := ⟨gb439, 0, none⟩) (Kd.R_types HO436.out BK439.out (by decide)) (fun _ hk => hk.2) (.bool t430)) (fun _ hk => hk.2) (.int .i64 t431)) (fun _ hk => hk.2) (.bool t432)) (fun _ hk => hk.2) (.int .i64 t433)) (fun _ hk => hk.2) (.slice Ao87 t434.length co87)) (fun _ h_ => h_.1)))); (case side2 => exact (Kd.R_reads' HO436.out).2.1); (case side3 => exact Kd.C_nil _ _); (case side4 => exact Nat.le_refl _); rintro e w88 ⟨rfl, hb⟩; have n0_ := Aside0.mk (Kd.R_below (by (with_reducible repeat (first | apply Kd.R_alloc | apply Kd.R_drewN | apply Kd.R_drew)); exact (Kd.R_mono (Kd.R_far (p := ⟨gb439, 4, none⟩) (Kd.R_far (p := ⟨gb439, 3, none⟩) (Kd.R_far (p := ⟨gb439, 2, none⟩) (Kd.R_far (p := ⟨gb439, 1, none⟩) (Kd.R_far (p := ⟨gb439, 0, none⟩) (Kd.R_types HO_8.out BK439.out (by decide)) (fun _ hk => hk.2) (.bool t430)) (fun _ hk => hk.2) (.int .i64 t431)) (fun _ hk => hk.2) (.bool t432)) (fun _ hk => hk.2) (.int .i64 t433)) (fun _ hk => hk.2) (.slice Ao87 t434.length co87)) (fun _ h_ => h_.1))) hb); have n1_ := Aside0.mk (Kd.R_below (by (with_reducible repeat (first | apply Kd.R_alloc | apply Kd.R_drewN | apply Kd.R_drew)); exact (Kd.R_mono (Kd.R_far (p := ⟨gb439, 4, none⟩) (Kd.R_far (p := ⟨gb439, 3, none⟩) (Kd.R_far (p := ⟨gb439, 2, none⟩) (Kd.R_far (p := ⟨gb439, 1, none⟩) (Kd.R_far (p := ⟨gb439, 0, none⟩) (Kd.R_types HO_424004.out BK439.out (by decide)) (fun _ hk => hk.2) (.bool t430)) (fun _ hk => hk.2) (.int .i64 t431)) (fun _ hk => hk.2) (.bool t432)) (fun _ hk => hk.2) (.int .i64 t433)) (fun _ hk => hk.2) (.slice Ao87 t434.length co87)) (fun _ h_ => h_.1))) hb); have n2_ := Aside0.mk (Kd.R_below (by (with_reducible repeat (first | apply Kd.R_alloc | apply Kd.R_drewN | apply Kd.R_drew)); exact (Kd.R_mono (Kd.R_far (p := ⟨gb439, 4, none⟩) (Kd.R_far (p := ⟨gb439, 3, none⟩) (Kd.R_far (p := ⟨gb439, 2, none⟩) (Kd.R_far (p := ⟨gb439, 1, none⟩) (Kd.R_far (p := ⟨gb439, 0, none⟩) (Kd.R_types HO436.out BK439.out (by decide)) (fun _ hk => hk.2) (.bool t430)) (fun _ hk => hk.2) (.int .i64 t431)) (fun _ hk => hk.2) (.bool t432)) (fun _ hk => hk.2) (.int .i64 t433)) (fun _ hk => hk.2) (.slice Ao87 t434.length co87)) (fun _ h_ => h_.1))) hb); have n3_ := Aside0.mk (blk_below (g := gb397) (o := .cells #[.bool a0_0, .int .i64 a0_1, .bool a0_2, .int .i64 a0_3, .slice A0_4 l0_4.length c0_4] 24 (0, 0)) (by (with_reducible repeat (first | refine blk_drewN ?_ _ | refine blk_drew ?_ | refine blk_alloc ?_ _)); refine blk_far ?_ NB397_439.out _; (with_reducible repeat (first | refine blk_drewN ?_ _ | refine blk_drew ?_ | refine blk_alloc ?_ _)); refine blk_far ?_ NB397_439.out _; (with_reducible repeat (first | refine blk_drewN ?_ _ | refine blk_drew ?_ | refine blk_alloc ?_ _)); refine blk_far ?_ NB397_439.out _; (with_reducible repeat (first | refine blk_drewN ?_ _ | refine blk_drew ?_ | refine blk_alloc ?_ _)); refine blk_far ?_ NB397_439.out _; (with_reducible repeat (first | refine blk_drewN ?_ _ | refine blk_drew ?_ | refine blk_alloc ?_ _)); refine blk_far ?_ NB397_439.out _; (with_reducible repeat (first | refine blk_drewN ?_ _ | refine blk_drew ?_ | refine blk_alloc ?_ _)); exact BK397.out) hb); have n4_ := Aside0.mk (blk_below (g := gb423) (o := .cells #[.bool t414, .int .i64 t415, .bool t416, .int .i64 t417, .slice Ao47 t418.length co47] 24 (0, 0)) (by (with_reducible repeat (first | refine blk_drewN ?_ _ | refine blk_drew ?_ | refine blk_alloc ?_ _)); refine blk_far ?_ NB423_439.out _; (with_reducible repeat (first | refine blk_drewN ?_ _ | refine blk_drew ?_ | refine blk_alloc ?_ _)); refine blk_far ?_ NB423_439.out _; (with_reducible repeat (first | refine blk_drewN ?_ _ | refine blk_drew ?_ | refine blk_alloc ?_ _)); refine blk_far ?_ NB423_439.out _; (with_reducible repeat (first | refine blk_drewN ?_ _ | refine blk_drew ?_ | refine blk_alloc ?_ _)); refine blk_far ?_ NB423_439.out _; (with_reducible repeat (first | refine blk_drewN ?_ _ | refine blk_drew ?_ | refine blk_alloc ?_ _)); refine blk_far ?_ NB423_439.out _; (with_reducible repeat (first | refine blk_drewN ?_ _ | refine blk_drew ?_ | refine blk_alloc ?_ _)); exact BK423.out) hb); have n5_ := Aside0.mk (blk_below (g := gb439) (o := .cells #[.bool t430, .int .i64 t431, .bool t432, .int .i64 t433, .slice Ao87 t434.length co87] 24 (0, 0)) (by (with_reducible repeat (first | refine blk_drewN ?_ _ | refine blk_drew ?_ | refine blk_alloc ?_ _)); refine blk_put (cs := #[.bool t430, .int .i64 t431, .bool t432, .int .i64 t433, .slice none 0 0]) ?_ 4 _ rfl; (with_reducible repeat (first | refine blk_drewN ?_ _ | refine blk_drew ?_ | refine blk_alloc ?_ _)); refine blk_put (cs := #[.bool t430, .int .i64 t431, .bool t432, .int .i64 0, .slice none 0 0]) ?_ 3 _ rfl; (with_reducible repeat (first | refine blk_drewN ?_ _ | refine blk_drew ?_ | refine blk_alloc ?_ _)); refine blk_put (cs := #[.bool t430, .int .i64 t431, .bool false, .int .i64 0, .slice none 0 0]) ?_ 2 _ rfl; (with_reducible repeat (first | refine blk_drewN ?_ _ | refine blk_drew ?_ | refine blk_alloc ?_ _)); refine blk_put (cs := #[.bool t430, .int .i64 0, .bool false, .int .i64 0, .slice none 0 0]) ?_ 1 _ rfl; (with_reducible repeat (first | refine blk_drewN ?_ _ | refine blk_drew ?_ | refine blk_alloc ?_ _)); refine blk_put (cs := #[.bool false, .int .i64 0, .bool false, .int .i64 0, .slice none 0 0]) ?_ 0 _ rfl; (with_reducible repeat (first | refine blk_drewN ?_ _ | refine blk_drew ?_ | refine blk_alloc ?_ _)); exact BK439.out) hb); have n6_ := Aside0.mk (below_step (by repeat (first | (with_reducible first | exact HB.out | apply below_alloc | apply pw_below_drewN | apply below_drew1 | refine below_set ?_ GE397.out | refine below_set ?_ GE423.out | refine below_set ?_ GE439.out) | exact HB.out)) hb); clear HO_8; clear HO_424004; clear HO436; clear BK397; clear BK423; clear BK439; clear HB; have HO_8 := n0_; have HO_424004 := n1_; have HO436 := n2_; have BK397 := n3_; have BK423 := n4_; have BK439 := n5_; have HB := n6_; clear n0_ n1_ n2_ n3_ n4_ n5_ n6_; (try clear hb); (try clear hb2); (try clear hk); (try clear hi)))
                                go_ret
                                exact ⟨by first | rfl | (simp [errW_none, errW_some] <;> rfl) | (simp only [← hji72]; first | rfl | (simp [errW_none, errW_some] <;> rfl)) | (simp [*, errW_none, errW_some] <;> rfl), by repeat (first | (with_reducible first | exact HB.out | apply below_alloc | apply pw_below_drewN | apply below_drew1 | refine below_set ?_ GE397.out | refine below_set ?_ GE423.out | refine below_set ?_ GE439.out) | exact HB.out)⟩
                              · rw [if_neg c80] at H
                                exact absurd H (by simp)
                            · rw [if_neg c79] at H
                              exact absurd H (by simp)
                          · replace c78 := Bool.eq_false_iff.mpr c78
                            subst c78
                            have H1 : (none) = some r := by rw [if_neg (show ¬ (false = true) by decide)] at H; exact H
                            clear H
                            have H := H1
                            clear H1
                            exact absurd H (by simp)
                        · replace c76 := Bool.eq_false_iff.mpr c76
                          subst c76
                          have H1 : (none) = some r := by rw [if_neg (show ¬ (false = true) by decide)] at H; exact H
                          clear H
                          have H := H1
                          clear H1
                          exact absurd H (by simp)
                      · rw [if_neg c74] at H
                        exact absurd H (by simp)
                    · rw [if_neg c73] at H
                      exact absurd H (by simp)
          · rw [if_neg c32] at H
            exact absurd H (by simp)
        · rw [if_neg c31] at H
          exact absurd H (by simp)

/-- THE ONE PURE STATEMENT of phaetonlaw04_FrameBack. -/
def phaetonlaw04_FrameBack.Pure : Prop := ∀ (a0_0 : Bool) (a0_1 : Int) (a0_2 : Bool) (a0_3 : Int) (l0_4 : List Int) (l1 : List Int) (a2 : Int), (Lit.int .i64 a0_1).wf = true → (Lit.int .i64 a0_3).wf = true → l0_4.length ≤ maxLen → (∀ x ∈ l0_4, (fun (x : Int) => (Lit.int .u8 x).wf = true) x) → l1.length ≤ maxLen → l1.length * 8 ≤ 140737488351232 → (∀ x ∈ l1, (fun (x : Int) => (Lit.int .i64 x).wf = true) x) → (Lit.int .u8 a2).wf = true → ∃ k, phaetonlaw04_FrameBack.f k a0_0 a0_1 a0_2 a0_3 l0_4 l1 a2 = some true
theorem phaetonlaw04_FrameBack.walk (P : phaetonlaw04_FrameBack.Pure) (a0_0 : Bool) (a0_1 : Int) (a0_2 : Bool) (a0_3 : Int) (A0_4 : Option Addr) (c0_4 : Nat) (l0_4 : List Int) (A1 : Option Addr) (c1 : Nat) (l1 : List Int) (a2 : Int) (w : World) (hw0_1 : (Lit.int .i64 a0_1).wf = true) (hw0_3 : (Lit.int .i64 a0_3).wf = true) (hw0_4 : ∀ x ∈ l0_4, (fun (x : Int) => (Lit.int .u8 x).wf = true) x) (hr0_4 : Kd.C (Kd.int .u8) w A0_4 l0_4.length l0_4) (hc0_4 : l0_4.length ≤ c0_4) (y1 : l1.length * 8 ≤ 140737488351232) (hw1 : ∀ x ∈ l1, (fun (x : Int) => (Lit.int .i64 x).wf = true) x) (hr1 : Kd.C (Kd.int .i64) w A1 l1.length l1) (hc1 : l1.length ≤ c1) (hw2 : (Lit.int .u8 a2).wf = true) :
    Calls Try.prog 4 #[.agg #[.bool a0_0, .int .i64 a0_1, .bool a0_2, .int .i64 a0_3, .slice A0_4 l0_4.length c0_4], .slice A1 l1.length c1, .int .u8 a2] w fun e w' => e = .returned (.bool true) ∧ Below w.heap.size w w' := by
  obtain ⟨k, h⟩ := P a0_0 a0_1 a0_2 a0_3 l0_4 l1 a2 hw0_1 hw0_3 (by have := hr0_4.2.1; unfold maxLen; omega) hw0_4 (by have := hr1.2.1; unfold maxLen; omega) y1 hw1 hw2
  refine (phaetonlaw04_FrameBack.calls k a0_0 a0_1 a0_2 a0_3 _ _ l0_4 _ _ l1 a2 true w hr0_4 hc0_4 hr1 hc1 h).mono ?_
  rintro e w' ⟨rfl, hd⟩
  exact ⟨rfl, hd⟩

end Go.Proofs.Ytiphbgcmbbfpmaa.Px

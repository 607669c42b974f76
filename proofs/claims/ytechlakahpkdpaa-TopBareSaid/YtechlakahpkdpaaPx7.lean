-- Written by myprint.py, a program of this session's, over the kit's print.py; not a text of print.sh's own.
import Derived.Test.YtechlakahpkdpaaPx0
import Derived.Test.YtechlakahpkdpaaPx3
import Derived.Test.YtechlakahpkdpaaPx4
import Derived.Test.YtechlakahpkdpaaPx5
import Derived.Test.YtechlakahpkdpaaPx6
namespace Go.Proofs.Ytechlakahpkdpaa.Px
open Go.RowKit Go.Proofs.YtechlakahpkdpaaW.PrintWords Go.Proofs.YtechlakahpkdpaaW.PrintLast Go.Proofs.YtechlakahpkdpaaW.PrintMore
attribute [local go_sem] max2_int min2_int max_two min_two max_three min_three max_four min_four   -- for this text's walks alone
set_option linter.unusedVariables false
set_option linter.unusedSimpArgs false

/-! ### phaetontop_TopBare: function 5 -/
mutual
def phaetontop_TopBare.j0 : Nat → Bool → Bool → Bool → Int → Bool → Int → List Int → Option (Bool)
  | 0, _, _, _, _, _, _, _ => none
  | k + 1, x3, x19, x240000, x240001, x240002, x240003, x240004 => if x19 = true then (if x3 = true then (some true) else (none)) else ((wire_Bits.f x240000 x240001 x240002 x240003 x240004).bind fun t242 => (if (t242.length : Int) < 20 then (none) else (if 0 ≤ (wrap64 ((t242.length : Int) - 10)) then (if (wrap64 ((t242.length : Int) - 10)) ≤ (t242.length : Int) then ((stuff_Strip.f (t242.take ((wrap64 ((t242.length : Int) - 10)) : Int).toNat)).bind fun bt249 => ((frame_Head.f x240000 x240001 x240002 x240003 x240004).bind fun t253 => (if bt249.2 = (-1) then (if (bt249.1.length : Int) = (wrap64 ((t253.length : Int) + 15)) then (if 0 ≤ (t253.length : Int) then (if (t253.length : Int) ≤ (bt249.1.length : Int) then ((phaetonref01_Same.f k (bt249.1.take ((t253.length : Int) : Int).toNat) t253).bind fun t260 => (phaetontop_TopBare.j1 k x3 t242 bt249.1 t253 (!t260))) else (none)) else (none)) else (phaetontop_TopBare.j1 k x3 t242 bt249.1 t253 true)) else (phaetontop_TopBare.j1 k x3 t242 bt249.1 t253 true)))) else (none)) else (none))))
def phaetontop_TopBare.j1 : Nat → Bool → List Int → List Int → List Int → Bool → Option (Bool)
  | 0, _, _, _, _, _ => none
  | k + 1, x3, x4, x5, x7, x55 => if x55 = true then (none) else (if 0 ≤ (x7.length : Int) then (if (x7.length : Int) ≤ (x5.length : Int) then ((bits_Get.f k (x5.drop ((x7.length : Int) : Int).toNat)).bind fun bt265 => (if x3 = true then (if bt265.2 = true then ((crc_Bits.f x7).bind fun t267 => (if bt265.1 = t267 then ((crc_Bits.f x5).bind fun t268 => (if t268 = 0 then ((stuff_Stuff.f x5).bind fun t269 => (if 0 ≤ (wrap64 ((x4.length : Int) - 10)) then (if (wrap64 ((x4.length : Int) - 10)) ≤ (x4.length : Int) then ((phaetonref01_Same.f k t269 (x4.take ((wrap64 ((x4.length : Int) - 10)) : Int).toNat)).bind fun t276 => (if t276 = true then (some true) else (none))) else (none)) else (none))) else (none))) else (none))) else (none)) else (none))) else (none)) else (none))
end
def phaetontop_TopBare.f (k : Nat) (a0_0 : Bool) (a0_1 : Int) (a0_2 : Bool) (a0_3 : Int) (l0_4 : List Int) : Option (Bool) := (phaetontop_head06.f k).bind fun t240 => (if (l0_4.length : Int) > 8 then (phaetontop_TopBare.j0 k t240 true a0_0 a0_1 a0_2 a0_3 l0_4) else ((phaetonref04_Right.f k a0_0 a0_1 a0_2 a0_3 l0_4).bind fun t241 => (phaetontop_TopBare.j0 k t240 (!t241) a0_0 a0_1 a0_2 a0_3 l0_4)))
theorem phaetontop_TopBare.mono_l : ∀ k, (∀ y0 y1 y2 y3 y4 y5 y6, LeO (phaetontop_TopBare.j0 k y0 y1 y2 y3 y4 y5 y6) (phaetontop_TopBare.j0 (k + 1) y0 y1 y2 y3 y4 y5 y6)) ∧ (∀ y0 y1 y2 y3 y4, LeO (phaetontop_TopBare.j1 k y0 y1 y2 y3 y4) (phaetontop_TopBare.j1 (k + 1) y0 y1 y2 y3 y4))
  | 0 => ⟨fun _ _ _ _ _ _ _ r h => by simp [phaetontop_TopBare.j0] at h, fun _ _ _ _ _ r h => by simp [phaetontop_TopBare.j1] at h⟩
  | k + 1 => by
    obtain ⟨ih0, ih1⟩ := phaetontop_TopBare.mono_l k
    refine ⟨?_, ?_⟩
    · intro y0 y1 y2 y3 y4 y5 y6
      unfold phaetontop_TopBare.j0
      repeat' first
      | (with_reducible exact ih0 _ _ _ _ _ _ _)
      | (with_reducible exact ih1 _ _ _ _ _)
      | (with_reducible exact bits_Get.mono _ _)
      | (with_reducible exact phaetonref01_Same.mono _ _ _)
      | (with_reducible exact phaetonref04_Right.mono _ _ _ _ _ _)
      | (with_reducible exact phaetontop_head06.mono _)
      | (with_reducible exact LeO.refl _)
      | (with_reducible exact LeO.none _)
      | (with_reducible refine LeO.ite ?_ ?_)
      | (with_reducible refine LeO.bind ?_ (fun _ => ?_))
      | exact ih0 _ _ _ _ _ _ _
      | exact ih1 _ _ _ _ _
      | exact bits_Get.mono _ _
      | exact phaetonref01_Same.mono _ _ _
      | exact phaetonref04_Right.mono _ _ _ _ _ _
      | exact phaetontop_head06.mono _
      | exact LeO.none _
      | refine LeO.ite ?_ ?_
      | refine LeO.bind ?_ (fun _ => ?_)
    · intro y0 y1 y2 y3 y4
      unfold phaetontop_TopBare.j1
      repeat' first
      | (with_reducible exact ih0 _ _ _ _ _ _ _)
      | (with_reducible exact ih1 _ _ _ _ _)
      | (with_reducible exact bits_Get.mono _ _)
      | (with_reducible exact phaetonref01_Same.mono _ _ _)
      | (with_reducible exact phaetonref04_Right.mono _ _ _ _ _ _)
      | (with_reducible exact phaetontop_head06.mono _)
      | (with_reducible exact LeO.refl _)
      | (with_reducible exact LeO.none _)
      | (with_reducible refine LeO.ite ?_ ?_)
      | (with_reducible refine LeO.bind ?_ (fun _ => ?_))
      | exact ih0 _ _ _ _ _ _ _
      | exact ih1 _ _ _ _ _
      | exact bits_Get.mono _ _
      | exact phaetonref01_Same.mono _ _ _
      | exact phaetonref04_Right.mono _ _ _ _ _ _
      | exact phaetontop_head06.mono _
      | exact LeO.none _
      | refine LeO.ite ?_ ?_
      | refine LeO.bind ?_ (fun _ => ?_)
theorem phaetontop_TopBare.mono : ∀ a0 a1 a2 a3 a4 k, LeO (phaetontop_TopBare.f k a0 a1 a2 a3 a4) (phaetontop_TopBare.f (k + 1) a0 a1 a2 a3 a4) := by
  intro a0 a1 a2 a3 a4 k
  obtain ⟨ih0, ih1⟩ := phaetontop_TopBare.mono_l k
  unfold phaetontop_TopBare.f
  repeat' first
      | (with_reducible exact ih0 _ _ _ _ _ _ _)
      | (with_reducible exact ih1 _ _ _ _ _)
      | (with_reducible exact bits_Get.mono _ _)
      | (with_reducible exact phaetonref01_Same.mono _ _ _)
      | (with_reducible exact phaetonref04_Right.mono _ _ _ _ _ _)
      | (with_reducible exact phaetontop_head06.mono _)
      | (with_reducible exact LeO.refl _)
      | (with_reducible exact LeO.none _)
      | (with_reducible refine LeO.ite ?_ ?_)
      | (with_reducible refine LeO.bind ?_ (fun _ => ?_))
      | exact ih0 _ _ _ _ _ _ _
      | exact ih1 _ _ _ _ _
      | exact bits_Get.mono _ _
      | exact phaetonref01_Same.mono _ _ _
      | exact phaetonref04_Right.mono _ _ _ _ _ _
      | exact phaetontop_head06.mono _
      | exact LeO.none _
      | refine LeO.ite ?_ ?_
      | refine LeO.bind ?_ (fun _ => ?_)
def phaetontop_TopBare.T12 : Bool × List (List Nat × List Nat) := (true, [([], []), ([0], [0]), ([1], [1]), ([1, 2], [1, 2]), ([3, 1], [3]), ([4], [4]), ([4], [4]), ([6, 4, 4], [4, 6]), ([5, 7, 4], [4, 5, 7]), ([4, 8], [4, 8]), ([9, 7], [9]), ([10], [10]), ([11, 10, 10], [10, 11]), ([12, 10], [10, 12]), ([10, 13], [10, 13]), ([14, 12], [14]), ([15], [15]), ([16, 15, 15], [15, 16]), ([15], [15]), ([15], [15]), ([19, 15], [15, 19]), ([20, 15], [15, 20]), ([18, 21, 15], [15, 18, 21]), ([17, 22, 17, 15], [15, 17, 22]), ([15, 23], [15, 23]), ([24, 23, 0, 1, 2, 3, 4, 5, 6, 7, 8, 9, 10, 11, 12, 13, 14, 15, 16, 17, 18, 19, 20, 21, 22, 23, 24], [24])])
def phaetontop_TopBare.B12 : List Nat := [0, 1, 3, 7, 15, 31, 31, 95, 255, 511, 1023, 2047, 4095, 8191, 16383, 32767, 65535, 131071, 65535, 65535, 589823, 1638399, 3997695, 8388607, 16777215, 33554431]
theorem phaetontop_TopBare.tab12 : rtab .any (opsOf Try.f5 12) = phaetontop_TopBare.T12 := by kernel_rfl
theorem phaetontop_TopBare.bits12 : waitsOk phaetontop_TopBare.T12.2 phaetontop_TopBare.B12 = true := by kernel_rfl
set_option maxHeartbeats 8000000 in
set_option maxRecDepth 100000 in
theorem phaetontop_TopBare.calls (k : Nat) (a0_0 : Bool) (a0_1 : Int) (a0_2 : Bool) (a0_3 : Int) (A0_4 : Option Addr) (c0_4 : Nat) (l0_4 : List Int) (r : Bool) (w : World) (hr0_4 : Kd.C (Kd.int .u8) w A0_4 l0_4.length l0_4) (hc0_4 : l0_4.length ≤ c0_4) (h : phaetontop_TopBare.f k a0_0 a0_1 a0_2 a0_3 l0_4 = some r) :
    Calls Try.prog 5 #[.agg #[.bool a0_0, .int .i64 a0_1, .bool a0_2, .int .i64 a0_3, .slice A0_4 l0_4.length c0_4]] w fun e w' => e = .returned (.bool r) ∧ Below w.heap.size w w' := by
  have hu26 := Try.underlying26
  have HR0_4 := Aside0.mk hr0_4
  have HC0_4 := Aside0.mk hc0_4
  clear hr0_4 hc0_4
  have HB := Aside0.mk (Below.refl w.heap.size w)
  have H : ((phaetontop_head06.f k).bind fun t240 => (if (l0_4.length : Int) > 8 then (phaetontop_TopBare.j0 k t240 true a0_0 a0_1 a0_2 a0_3 l0_4) else ((phaetonref04_Right.f k a0_0 a0_1 a0_2 a0_3 l0_4).bind fun t241 => (phaetontop_TopBare.j0 k t240 (!t241) a0_0 a0_1 a0_2 a0_3 l0_4)))) = some r := h
  clear h
  replace H := Option.bind_eq_some_iff.mp H
  obtain ⟨t240, A20, H⟩ := H
  replace H : (if (l0_4.length : Int) > 8 then (phaetontop_TopBare.j0 k t240 true a0_0 a0_1 a0_2 a0_3 l0_4) else ((phaetonref04_Right.f k a0_0 a0_1 a0_2 a0_3 l0_4).bind fun t241 => (phaetontop_TopBare.j0 k t240 (!t241) a0_0 a0_1 a0_2 a0_3 l0_4))) = some r := H
  have A2 := Aside0.mk A20
  clear A20
  have HC3 := Aside0.mk H
  clear H
  go_enter Try.func5, Try.ntmps5
  (try simp only [List.append])
  go_upto_region 2 with (first | ((with_reducible refine gate_dst (N := 1) rfl ?_); (try (refine gate_guard (by rfl) ?_; dsimp only)); refine box_event ?hg (N := 1) ?hd (cs := #[.bool a0_0, .int .i64 a0_1, .bool a0_2, .int .i64 a0_3, .slice A0_4 l0_4.length c0_4]) (t := 26) ?hr ?_; (case hd => rfl); (case hg => rfl); (case hr => first | (go_simp; done) | (go_simp; rfl)); intro gb239 hg w4 hbox hb; have n0_ := Aside0.mk (below_step (by repeat (first | (with_reducible first | exact HB.out | apply below_alloc | apply pw_below_drewN | apply below_drew1) | exact HB.out)) hb); have n1_ := Aside0.mk (hbox); have n2_ := Aside0.mk ((by rw [hg]; exact (below_size (by repeat (first | (with_reducible first | exact HB.out | apply below_alloc | apply pw_below_drewN | apply below_drew1) | exact HB.out))) : w.heap.size ≤ gb239)); have n3_ := Aside0.mk ((by rw [hg]; exact (below_size (by repeat (first | (with_reducible first | exact HB.out | apply below_alloc | apply pw_below_drewN | apply below_drew1) | exact HB.out))) : w.heap.size ≤ gb239)); clear HB; have HB := n0_; have BK239 := n1_; have GW239 := n2_; have GE239 := n3_; clear n0_ n1_ n2_ n3_; clear hb hbox hg) | ((with_reducible refine gate_callee (f := 6) rfl ?_); refine goesL_ (some 10) rfl rfl Try.func6 (by kernel_rfl) rfl #[] rfl (by (try simp only [List.map_toArray, List.map_cons, List.map_nil]); first | done | rfl | (simp only [List.length_drop, List.length_take]; rfl) | (simp [Act.eval]; first | (rw [KY24.out, KY35.out, ← hji15, ← hji49]; done) | (rw [KY24.out, KY55.out, ← hji15, ← hji49]; done) | (rw [KY24.out, KY61.out, ← hji15, ← hji49]; done) | (rw [KY35.out, KY24.out, ← hji15, ← hji49]; done) | (rw [KY35.out, KY55.out, ← hji15, ← hji49]; done) | (rw [KY35.out, KY61.out, ← hji15, ← hji49]; done) | (rw [KY55.out, KY24.out, ← hji15, ← hji49]; done) | (rw [KY55.out, KY35.out, ← hji15, ← hji49]; done) | (rw [KY55.out, KY61.out, ← hji15, ← hji49]; done) | (rw [KY61.out, KY24.out, ← hji15, ← hji49]; done) | (rw [KY61.out, KY35.out, ← hji15, ← hji49]; done) | (rw [KY61.out, KY55.out, ← hji15, ← hji49]; done))) ?_; (with_reducible refine (phaetontop_head06.calls k  t240 _ A2.out).mono ?_); rintro e w5 ⟨rfl, hb⟩; refine ⟨_, rfl, ?_⟩; have n0_ := Aside0.mk (blk_below (g := gb239) (o := .cells #[.bool a0_0, .int .i64 a0_1, .bool a0_2, .int .i64 a0_3, .slice A0_4 l0_4.length c0_4] 26 (0, 0)) (by (with_reducible repeat (first | refine blk_drewN ?_ _ | refine blk_drew ?_ | refine blk_alloc ?_ _)); exact BK239.out) hb); have n1_ := Aside0.mk (below_step (by repeat (first | (with_reducible first | exact HB.out | apply below_alloc | apply pw_below_drewN | apply below_drew1 | refine below_set ?_ GE239.out) | exact HB.out)) hb); clear BK239; clear HB; have BK239 := n0_; have HB := n1_; clear n0_ n1_; (try clear hb); (try clear hb2); (try clear hk); (try clear hi)))
  (try simp only [Act.put, List.setIfInBounds_toArray, List.set_cons_zero, List.set_cons_succ])
  go_cut [19] (fun v19 wc => ∃ (kq : Nat) (x19_2 : Bool), v19 = .bool x19_2 ∧ Aside0 (phaetontop_TopBare.j0 kq t240 x19_2 a0_0 a0_1 a0_2 a0_3 l0_4 = some r) ∧ Aside0 (kq ≤ k) ∧ Aside0 (wc.heap[gb239]? = some (.cells #[.bool a0_0, .int .i64 a0_1, .bool a0_2, .int .i64 a0_3, (.slice A0_4 l0_4.length c0_4)] 26 (0, 0))) ∧ Aside0 (Below w.heap.size w wc))
  case first =>
    have H := HC3.out
    clear HC3
    by_cases c6 : (l0_4.length : Int) > 8
    · rw [if_pos c6] at H
      have c6b0 : decide (8 < (l0_4.length : Int)) = true := decide_eq_true c6
      have c6b1 : decide (8 < l0_4.length) = true := decide_eq_true (by omega)
      clear c6
      (first | rw [c6b0] | (simp only [i64_w, i32_w]; rw [c6b0]) | skip)
      have H' := Aside0.mk H
      clear H
      have hcz7_0 : w5.cell? ⟨gb239, 0, none⟩ = some (.bool a0_0) := (blk_cell BK239.out 0).trans rfl
      have hcz7_1 : w5.cell? ⟨gb239, 1, none⟩ = some (.int .i64 a0_1) := (blk_cell BK239.out 1).trans rfl
      have hcz7_2 : w5.cell? ⟨gb239, 2, none⟩ = some (.bool a0_2) := (blk_cell BK239.out 2).trans rfl
      have hcz7_3 : w5.cell? ⟨gb239, 3, none⟩ = some (.int .i64 a0_3) := (blk_cell BK239.out 3).trans rfl
      have hcz7_4 : w5.cell? ⟨gb239, 4, none⟩ = some (.slice A0_4 l0_4.length c0_4) := (blk_cell BK239.out 4).trans rfl
      have hfz7_0 := blk_frozen BK239.out 0
      have hfz7_1 := blk_frozen BK239.out 1
      have hfz7_2 := blk_frozen BK239.out 2
      have hfz7_3 := blk_frozen BK239.out 3
      have hfz7_4 := blk_frozen BK239.out 4
      go_wp2
      go_meet
      case rel => exact ⟨_, (true), (by first | rfl | (simp; done) | (simp [*]; done)), H', ⟨by first | omega | exact Nat.le_refl _⟩, ⟨by (with_reducible repeat (first | refine blk_drewN ?_ _ | refine blk_drew ?_ | refine blk_alloc ?_ _)); exact BK239.out⟩, ⟨by repeat (first | (with_reducible first | exact HB.out | apply below_alloc | apply pw_below_drewN | apply below_drew1 | refine below_set ?_ GE239.out) | exact HB.out)⟩⟩
    · rw [if_neg c6] at H
      have c6b0 : decide (8 < (l0_4.length : Int)) = false := decide_eq_false c6
      have c6b1 : decide (8 < l0_4.length) = false := decide_eq_false (by omega)
      clear c6
      (first | rw [c6b0] | (simp only [i64_w, i32_w]; rw [c6b0]) | skip)
      replace H := Option.bind_eq_some_iff.mp H
      obtain ⟨t241, A80, H⟩ := H
      replace H : (phaetontop_TopBare.j0 k t240 (!t241) a0_0 a0_1 a0_2 a0_3 l0_4) = some r := H
      have A8 := Aside0.mk A80
      clear A80
      have H' := Aside0.mk H
      clear H
      have hcz9_0 : w5.cell? ⟨gb239, 0, none⟩ = some (.bool a0_0) := (blk_cell BK239.out 0).trans rfl
      have hcz9_1 : w5.cell? ⟨gb239, 1, none⟩ = some (.int .i64 a0_1) := (blk_cell BK239.out 1).trans rfl
      have hcz9_2 : w5.cell? ⟨gb239, 2, none⟩ = some (.bool a0_2) := (blk_cell BK239.out 2).trans rfl
      have hcz9_3 : w5.cell? ⟨gb239, 3, none⟩ = some (.int .i64 a0_3) := (blk_cell BK239.out 3).trans rfl
      have hcz9_4 : w5.cell? ⟨gb239, 4, none⟩ = some (.slice A0_4 l0_4.length c0_4) := (blk_cell BK239.out 4).trans rfl
      have hfz9_0 := blk_frozen BK239.out 0
      have hfz9_1 := blk_frozen BK239.out 1
      have hfz9_2 := blk_frozen BK239.out 2
      have hfz9_3 := blk_frozen BK239.out 3
      have hfz9_4 := blk_frozen BK239.out 4
      go_wp2_with (first | ((with_reducible refine gate_store (t := 26) (p := 1) rfl ?_); refine HW.store_box rfl rfl 26 _ _ rfl rfl rfl BK239.out rfl (by kernel_rfl) (by intro q hq; simp only [List.mem_cons, List.not_mem_nil, or_false] at hq; rcases hq with rfl | rfl | rfl | rfl | rfl <;> rfl) ?_; intro w1_ hw1_; simp only [List.toList_toArray, World.setCells, Nat.zero_add, Nat.reduceAdd] at hw1_; subst hw1_) | (go_at_call 7; (with_reducible refine (phaetonref04_Right.calls k a0_0 a0_1 a0_2 a0_3 _ _ l0_4 t241 _ ?side1 ?side2 A8.out).mono ?_); (case side1 => repeat (first | exact (Kd.C_below HR0_4.out HB.out) | (with_reducible refine Kd.C_alloc ?_ _) | (with_reducible refine Kd.C_drewN ?_ _) | (with_reducible refine Kd.C_drew ?_))); (case side2 => exact HC0_4.out); rintro e w10 ⟨rfl, hb⟩; have n0_ := Aside0.mk (blk_below (g := gb239) (o := .cells #[.bool a0_0, .int .i64 a0_1, .bool a0_2, .int .i64 a0_3, .slice A0_4 l0_4.length c0_4] 26 (0, 0)) (by (with_reducible repeat (first | refine blk_drewN ?_ _ | refine blk_drew ?_ | refine blk_alloc ?_ _)); exact BK239.out) hb); have n1_ := Aside0.mk (below_step (by repeat (first | (with_reducible first | exact HB.out | apply below_alloc | apply pw_below_drewN | apply below_drew1 | refine below_set ?_ GE239.out) | exact HB.out)) hb); clear BK239; clear HB; have BK239 := n0_; have HB := n1_; clear n0_ n1_; (try clear hb); (try clear hb2); (try clear hk); (try clear hi)))
      go_meet
      case rel => exact ⟨_, (!t241), (by first | rfl | (simp; done) | (simp [*]; done)), H', ⟨by first | omega | exact Nat.le_refl _⟩, ⟨by (with_reducible repeat (first | refine blk_drewN ?_ _ | refine blk_drew ?_ | refine blk_alloc ?_ _)); exact BK239.out⟩, ⟨by repeat (first | (with_reducible first | exact HB.out | apply below_alloc | apply pw_below_drewN | apply below_drew1 | refine below_set ?_ GE239.out) | exact HB.out)⟩⟩
  case rest =>
    clear HC3
    try clear p2
    try clear c5
    try clear c6
    try clear c6b0
    try clear c6b1
    try clear hcz7_0
    try clear hcz7_1
    try clear hcz7_2
    try clear hcz7_3
    try clear hcz7_4
    try clear hcz9_0
    try clear hcz9_1
    try clear hcz9_2
    try clear hcz9_3
    try clear hcz9_4
    try clear hfz7_0
    try clear hfz7_1
    try clear hfz7_2
    try clear hfz7_3
    try clear hfz7_4
    try clear hfz9_0
    try clear hfz9_1
    try clear hfz9_2
    try clear hfz9_3
    try clear hfz9_4
    obtain ⟨kq, x19_2, rfl, HA, HJ2, BK239, HB⟩ := hcut
    cases kq with
    | zero => exact absurd HA.out (by simp [phaetontop_TopBare.j0])
    | succ kj2 =>
      have H := HA.out
      clear HA
      simp only [phaetontop_TopBare.j0] at H
      by_cases c11 : x19_2 = true
      · subst c11
        have H1 : (if t240 = true then (some true) else (none)) = some r := by rw [if_pos rfl] at H; exact H
        clear H
        have H := H1
        clear H1
        by_cases c12 : t240 = true
        · subst c12
          have H1 : (some true) = some r := by rw [if_pos rfl] at H; exact H
          clear H
          have H := H1
          clear H1
          obtain rfl := Option.some.inj H
          go_wp2
          go_ret
          exact ⟨by first | rfl | (simp [errW_none, errW_some] <;> rfl) | (simp [*, errW_none, errW_some] <;> rfl), by repeat (first | (with_reducible first | exact HB.out | apply below_alloc | apply pw_below_drewN | apply below_drew1 | refine below_set ?_ GE239.out) | exact HB.out)⟩
        · replace c12 := Bool.eq_false_iff.mpr c12
          subst c12
          have H1 : (none) = some r := by rw [if_neg (show ¬ (false = true) by decide)] at H; exact H
          clear H
          have H := H1
          clear H1
          exact absurd H (by simp)
      · replace c11 := Bool.eq_false_iff.mpr c11
        subst c11
        have H1 : ((wire_Bits.f a0_0 a0_1 a0_2 a0_3 l0_4).bind fun t242 => (if (t242.length : Int) < 20 then (none) else (if 0 ≤ (wrap64 ((t242.length : Int) - 10)) then (if (wrap64 ((t242.length : Int) - 10)) ≤ (t242.length : Int) then ((stuff_Strip.f (t242.take ((wrap64 ((t242.length : Int) - 10)) : Int).toNat)).bind fun bt249 => ((frame_Head.f a0_0 a0_1 a0_2 a0_3 l0_4).bind fun t253 => (if bt249.2 = (-1) then (if (bt249.1.length : Int) = (wrap64 ((t253.length : Int) + 15)) then (if 0 ≤ (t253.length : Int) then (if (t253.length : Int) ≤ (bt249.1.length : Int) then ((phaetonref01_Same.f kj2 (bt249.1.take ((t253.length : Int) : Int).toNat) t253).bind fun t260 => (phaetontop_TopBare.j1 kj2 t240 t242 bt249.1 t253 (!t260))) else (none)) else (none)) else (phaetontop_TopBare.j1 kj2 t240 t242 bt249.1 t253 true)) else (phaetontop_TopBare.j1 kj2 t240 t242 bt249.1 t253 true)))) else (none)) else (none)))) = some r := by rw [if_neg (show ¬ (false = true) by decide)] at H; exact H
        clear H
        have H := H1
        clear H1
        replace H := Option.bind_eq_some_iff.mp H
        obtain ⟨t242, A130, H⟩ := H
        replace H : (if (t242.length : Int) < 20 then (none) else (if 0 ≤ (wrap64 ((t242.length : Int) - 10)) then (if (wrap64 ((t242.length : Int) - 10)) ≤ (t242.length : Int) then ((stuff_Strip.f (t242.take ((wrap64 ((t242.length : Int) - 10)) : Int).toNat)).bind fun bt249 => ((frame_Head.f a0_0 a0_1 a0_2 a0_3 l0_4).bind fun t253 => (if bt249.2 = (-1) then (if (bt249.1.length : Int) = (wrap64 ((t253.length : Int) + 15)) then (if 0 ≤ (t253.length : Int) then (if (t253.length : Int) ≤ (bt249.1.length : Int) then ((phaetonref01_Same.f kj2 (bt249.1.take ((t253.length : Int) : Int).toNat) t253).bind fun t260 => (phaetontop_TopBare.j1 kj2 t240 t242 bt249.1 t253 (!t260))) else (none)) else (none)) else (phaetontop_TopBare.j1 kj2 t240 t242 bt249.1 t253 true)) else (phaetontop_TopBare.j1 kj2 t240 t242 bt249.1 t253 true)))) else (none)) else (none))) = some r := H
        have A13 := Aside0.mk A130
        clear A130
        by_cases c14 : (t242.length : Int) < 20
        · rw [if_pos c14] at H
          exact absurd H (by simp)
        · rw [if_neg c14] at H
          have c14b0 : decide ((t242.length : Int) < 20) = false := decide_eq_false c14
          have c14b1 : decide (t242.length < 20) = false := decide_eq_false (by omega)
          clear c14
          obtain ⟨ji15, hji15⟩ : ∃ j_ : Int, (wrap64 ((t242.length : Int) - 10)) = j_ := ⟨_, rfl⟩
          replace H : (if 0 ≤ (ji15) then (if (ji15) ≤ (t242.length : Int) then ((stuff_Strip.f (t242.take ((ji15) : Int).toNat)).bind fun bt249 => ((frame_Head.f a0_0 a0_1 a0_2 a0_3 l0_4).bind fun t253 => (if bt249.2 = (-1) then (if (bt249.1.length : Int) = (wrap64 ((t253.length : Int) + 15)) then (if 0 ≤ (t253.length : Int) then (if (t253.length : Int) ≤ (bt249.1.length : Int) then ((phaetonref01_Same.f kj2 (bt249.1.take ((t253.length : Int) : Int).toNat) t253).bind fun t260 => (phaetontop_TopBare.j1 kj2 t240 t242 bt249.1 t253 (!t260))) else (none)) else (none)) else (phaetontop_TopBare.j1 kj2 t240 t242 bt249.1 t253 true)) else (phaetontop_TopBare.j1 kj2 t240 t242 bt249.1 t253 true)))) else (none)) else (none)) = some r := by first | (rw [hji15] at H; exact H) | (simp only [hji15] at H ⊢; exact H)
          (try rw [hji15] at A13)
          have hji15w : (IntKind.i64.wrap ((t242.length : Int) - 10)) = ji15 := (i64_w _).trans hji15
          by_cases c16 : 0 ≤ (ji15)
          · rw [if_pos c16] at H
            have c16b0 := eq_true c16
            have c16b1 : decide (0 ≤ (ji15)) = true := decide_eq_true c16
            have c16m : max (ji15) 0 = (ji15) := by omega
            clear c16
            by_cases c17 : (ji15) ≤ (t242.length : Int)
            · rw [if_pos c17] at H
              have c17b0 := eq_true c17
              have c17b1 : decide ((ji15) ≤ (t242.length : Int)) = true := decide_eq_true c17
              clear c17
              obtain ⟨y245, hy245⟩ : ∃ y_ : List Int, y_ = (t242.take ((ji15) : Int).toNat) := ⟨_, rfl⟩
              replace H : ((stuff_Strip.f y245).bind fun bt249 => ((frame_Head.f a0_0 a0_1 a0_2 a0_3 l0_4).bind fun t253 => (if bt249.2 = (-1) then (if (bt249.1.length : Int) = (wrap64 ((t253.length : Int) + 15)) then (if 0 ≤ (t253.length : Int) then (if (t253.length : Int) ≤ (bt249.1.length : Int) then ((phaetonref01_Same.f kj2 (bt249.1.take ((t253.length : Int) : Int).toNat) t253).bind fun t260 => (phaetontop_TopBare.j1 kj2 t240 t242 bt249.1 t253 (!t260))) else (none)) else (none)) else (phaetontop_TopBare.j1 kj2 t240 t242 bt249.1 t253 true)) else (phaetontop_TopBare.j1 kj2 t240 t242 bt249.1 t253 true)))) = some r := by first | (rw [hy245]; with_reducible exact H) | (have H2_ := (Option.bind_some _ _).symm.trans H; rw [hy245]; with_reducible exact H2_) | (have H2_ := (Option.bind_some _ _).symm.trans H; with_reducible exact H2_) | with_reducible exact H | (rw [hy245]; exact H) | exact H
              have Ny245 := Aside0.mk hy245
              clear hy245
              replace H := Option.bind_eq_some_iff.mp H
              obtain ⟨⟨t249, t250⟩, A180, H⟩ := H
              replace H : ((frame_Head.f a0_0 a0_1 a0_2 a0_3 l0_4).bind fun t253 => (if t250 = (-1) then (if (t249.length : Int) = (wrap64 ((t253.length : Int) + 15)) then (if 0 ≤ (t253.length : Int) then (if (t253.length : Int) ≤ (t249.length : Int) then ((phaetonref01_Same.f kj2 (t249.take ((t253.length : Int) : Int).toNat) t253).bind fun t260 => (phaetontop_TopBare.j1 kj2 t240 t242 t249 t253 (!t260))) else (none)) else (none)) else (phaetontop_TopBare.j1 kj2 t240 t242 t249 t253 true)) else (phaetontop_TopBare.j1 kj2 t240 t242 t249 t253 true))) = some r := H
              have A18 := Aside0.mk A180
              clear A180
              replace H := Option.bind_eq_some_iff.mp H
              obtain ⟨t253, A190, H⟩ := H
              replace H : (if t250 = (-1) then (if (t249.length : Int) = (wrap64 ((t253.length : Int) + 15)) then (if 0 ≤ (t253.length : Int) then (if (t253.length : Int) ≤ (t249.length : Int) then ((phaetonref01_Same.f kj2 (t249.take ((t253.length : Int) : Int).toNat) t253).bind fun t260 => (phaetontop_TopBare.j1 kj2 t240 t242 t249 t253 (!t260))) else (none)) else (none)) else (phaetontop_TopBare.j1 kj2 t240 t242 t249 t253 true)) else (phaetontop_TopBare.j1 kj2 t240 t242 t249 t253 true)) = some r := H
              have A19 := Aside0.mk A190
              clear A190
              have HC20 := Aside0.mk H
              clear H
              have hcz21_0 : wc.cell? ⟨gb239, 0, none⟩ = some (.bool a0_0) := (blk_cell BK239.out 0).trans rfl
              have hcz21_1 : wc.cell? ⟨gb239, 1, none⟩ = some (.int .i64 a0_1) := (blk_cell BK239.out 1).trans rfl
              have hcz21_2 : wc.cell? ⟨gb239, 2, none⟩ = some (.bool a0_2) := (blk_cell BK239.out 2).trans rfl
              have hcz21_3 : wc.cell? ⟨gb239, 3, none⟩ = some (.int .i64 a0_3) := (blk_cell BK239.out 3).trans rfl
              have hcz21_4 : wc.cell? ⟨gb239, 4, none⟩ = some (.slice A0_4 l0_4.length c0_4) := (blk_cell BK239.out 4).trans rfl
              have hfz21_0 := blk_frozen BK239.out 0
              have hfz21_1 := blk_frozen BK239.out 1
              have hfz21_2 := blk_frozen BK239.out 2
              have hfz21_3 := blk_frozen BK239.out 3
              have hfz21_4 := blk_frozen BK239.out 4
              go_upto_region 9 with (first | ((with_reducible refine gate_callee (f := 13) rfl ?_); refine goesL_ (some 22) rfl rfl Try.func13 (by kernel_rfl) rfl #[.agg #[.bool a0_0, .int .i64 a0_1, .bool a0_2, .int .i64 a0_3, .slice A0_4 l0_4.length c0_4]] rfl (by (try simp only [List.map_toArray, List.map_cons, List.map_nil]); first | done | rfl | (simp only [List.length_drop, List.length_take]; rfl) | (simp [Act.eval]; first | (rw [KY24.out, KY35.out, ← hji15, ← hji49]; done) | (rw [KY24.out, KY55.out, ← hji15, ← hji49]; done) | (rw [KY24.out, KY61.out, ← hji15, ← hji49]; done) | (rw [KY35.out, KY24.out, ← hji15, ← hji49]; done) | (rw [KY35.out, KY55.out, ← hji15, ← hji49]; done) | (rw [KY35.out, KY61.out, ← hji15, ← hji49]; done) | (rw [KY55.out, KY24.out, ← hji15, ← hji49]; done) | (rw [KY55.out, KY35.out, ← hji15, ← hji49]; done) | (rw [KY55.out, KY61.out, ← hji15, ← hji49]; done) | (rw [KY61.out, KY24.out, ← hji15, ← hji49]; done) | (rw [KY61.out, KY35.out, ← hji15, ← hji49]; done) | (rw [KY61.out, KY55.out, ← hji15, ← hji49]; done))) ?_; (with_reducible refine (wire_Bits.calls a0_0 a0_1 a0_2 a0_3 _ _ l0_4 t242 _ ?side1 ?side2 A13.out).mono ?_); (case side1 => repeat (first | exact (Kd.C_below HR0_4.out HB.out) | (with_reducible refine Kd.C_alloc ?_ _) | (with_reducible refine Kd.C_drewN ?_ _) | (with_reducible refine Kd.C_drew ?_))); (case side2 => exact HC0_4.out); rintro e w22 ⟨v243, rfl, ho0, hb⟩; refine ⟨_, rfl, ?_⟩; have n0_ := Aside0.mk (Kd.R_lower ho0 (below_size (by repeat (first | (with_reducible first | exact HB.out | apply below_alloc | apply pw_below_drewN | apply below_drew1 | refine below_set ?_ GE239.out) | exact HB.out)))); have n1_ := Aside0.mk (blk_below (g := gb239) (o := .cells #[.bool a0_0, .int .i64 a0_1, .bool a0_2, .int .i64 a0_3, .slice A0_4 l0_4.length c0_4] 26 (0, 0)) (by (with_reducible repeat (first | refine blk_drewN ?_ _ | refine blk_drew ?_ | refine blk_alloc ?_ _)); exact BK239.out) hb); have n2_ := Aside0.mk (below_step (by repeat (first | (with_reducible first | exact HB.out | apply below_alloc | apply pw_below_drewN | apply below_drew1 | refine below_set ?_ GE239.out) | exact HB.out)) hb); clear BK239; clear HB; have HO244 := n0_; have BK239 := n1_; have HB := n2_; clear n0_ n1_ n2_; (try clear hb); (try clear hb2); (try clear hk); (try clear hi); (try clear ho0); obtain ⟨Ao23, co23, eo23⟩ := Kd.R_slice HO244.out; subst eo23; have q24 : ((ji15) : Int) ≤ ((t242.length : Int) : Int) := of_decide_eq_true (by first | (with_reducible assumption) | assumption); obtain ⟨i024, hi024, _, hsz24, _⟩ := info_parts info3; have hroom24 : t242.length ≤ co23 := (Kd.R_reads' HO244.out).2.1; have hC24 : Kd.C (Kd.int .i64) _ Ao23 t242.length t242 := (Kd.R_reads' HO244.out).2.2; have hcut24 := cut_to (P := Try.prog) 30 3 .i64 Try.underlying30 hi024 Ao23 t242.length co23 (ji15) (of_decide_eq_true (by first | (with_reducible assumption) | assumption)) q24 hroom24; have hr24 := Kd.C_take (m := ((ji15) : Int).toNat) hC24 (by omega); have hy24 : y245.length = ((ji15) : Int).toNat := (by rw [Ny245.out, List.length_take]; omega); rw [← Ny245.out] at hr24; rw [← hy24] at hcut24; have HR248 := Aside0.mk hr24; have HC248 := Aside0.mk (show y245.length ≤ co23 from by omega); clear hr24 hC24 hroom24 hi024 hsz24; have KY24 := Aside0.mk hy24; clear hy24; have KL24 := Aside0.mk (show ((ji15) : Int).toNat ≤ t242.length from by omega); replace q24 := eq_true q24) | ((with_reducible refine gate_callee (f := 16) rfl ?_); refine goesL_ (some 32) rfl rfl Try.func16 (by kernel_rfl) rfl #[.slice Ao23 y245.length co23] rfl (by (try simp only [List.map_toArray, List.map_cons, List.map_nil]); first | done | rfl | (simp only [List.length_drop, List.length_take]; rfl) | (simp [Act.eval]; first | (rw [KY24.out, KY35.out, ← hji15, ← hji49]; done) | (rw [KY24.out, KY55.out, ← hji15, ← hji49]; done) | (rw [KY24.out, KY61.out, ← hji15, ← hji49]; done) | (rw [KY35.out, KY24.out, ← hji15, ← hji49]; done) | (rw [KY35.out, KY55.out, ← hji15, ← hji49]; done) | (rw [KY35.out, KY61.out, ← hji15, ← hji49]; done) | (rw [KY55.out, KY24.out, ← hji15, ← hji49]; done) | (rw [KY55.out, KY35.out, ← hji15, ← hji49]; done) | (rw [KY55.out, KY61.out, ← hji15, ← hji49]; done) | (rw [KY61.out, KY24.out, ← hji15, ← hji49]; done) | (rw [KY61.out, KY35.out, ← hji15, ← hji49]; done) | (rw [KY61.out, KY55.out, ← hji15, ← hji49]; done))) ?_; (with_reducible refine (stuff_Strip.calls _ _ y245 t249 t250 _ ?side1 ?side2 A18.out).mono ?_); (case side1 => repeat (first | exact (by repeat (first | (with_reducible exact HR248.out) | (with_reducible refine Kd.C_alloc ?_ _) | (with_reducible refine Kd.C_drewN ?_ _) | (with_reducible refine Kd.C_drew ?_) | exact HR248.out)) | (with_reducible refine Kd.C_alloc ?_ _) | (with_reducible refine Kd.C_drewN ?_ _) | (with_reducible refine Kd.C_drew ?_))); (case side2 => exact HC248.out); rintro e w25 ⟨v251, rfl, ho0, hb⟩; refine ⟨_, rfl, ?_⟩; have n0_ := Aside0.mk (Kd.R_elder' (by (with_reducible repeat (first | apply Kd.R_alloc | apply Kd.R_drewN | apply Kd.R_drew)); exact HO244.out) (Kd.R_base ho0) hb); have n1_ := Aside0.mk (Kd.R_lower (Kd.R_new' ho0 (Kd.R_lt (by (with_reducible repeat (first | apply Kd.R_alloc | apply Kd.R_drewN | apply Kd.R_drew)); exact HO244.out))) (below_size (by repeat (first | (with_reducible first | exact HB.out | apply below_alloc | apply pw_below_drewN | apply below_drew1 | refine below_set ?_ GE239.out) | exact HB.out)))); have n2_ := Aside0.mk (blk_below (g := gb239) (o := .cells #[.bool a0_0, .int .i64 a0_1, .bool a0_2, .int .i64 a0_3, .slice A0_4 l0_4.length c0_4] 26 (0, 0)) (by (with_reducible repeat (first | refine blk_drewN ?_ _ | refine blk_drew ?_ | refine blk_alloc ?_ _)); exact BK239.out) hb); have n3_ := Aside0.mk (Kd.C_below (by repeat (first | (with_reducible exact HR248.out) | (with_reducible refine Kd.C_alloc ?_ _) | (with_reducible refine Kd.C_drewN ?_ _) | (with_reducible refine Kd.C_drew ?_) | exact HR248.out)) hb); have n4_ := Aside0.mk (below_step (by repeat (first | (with_reducible first | exact HB.out | apply below_alloc | apply pw_below_drewN | apply below_drew1 | refine below_set ?_ GE239.out) | exact HB.out)) hb); clear HO244; clear BK239; clear HR248; clear HB; have HO244 := n0_; have HO252 := n1_; have BK239 := n2_; have HR248 := n3_; have HB := n4_; clear n0_ n1_ n2_ n3_ n4_; (try clear hb); (try clear hb2); (try clear hk); (try clear hi); (try clear ho0); have hcz26_0 : w25.cell? ⟨gb239, 0, none⟩ = some (.bool a0_0) := (blk_cell BK239.out 0).trans rfl; have hcz26_1 : w25.cell? ⟨gb239, 1, none⟩ = some (.int .i64 a0_1) := (blk_cell BK239.out 1).trans rfl; have hcz26_2 : w25.cell? ⟨gb239, 2, none⟩ = some (.bool a0_2) := (blk_cell BK239.out 2).trans rfl; have hcz26_3 : w25.cell? ⟨gb239, 3, none⟩ = some (.int .i64 a0_3) := (blk_cell BK239.out 3).trans rfl; have hcz26_4 : w25.cell? ⟨gb239, 4, none⟩ = some (.slice A0_4 l0_4.length c0_4) := (blk_cell BK239.out 4).trans rfl; have hfz26_0 := blk_frozen BK239.out 0; have hfz26_1 := blk_frozen BK239.out 1; have hfz26_2 := blk_frozen BK239.out 2; have hfz26_3 := blk_frozen BK239.out 3; have hfz26_4 := blk_frozen BK239.out 4) | ((with_reducible refine gate_callee (f := 17) rfl ?_); refine goesL_ (some 36) rfl rfl Try.func17 (by kernel_rfl) rfl #[.agg #[.bool a0_0, .int .i64 a0_1, .bool a0_2, .int .i64 a0_3, .slice A0_4 l0_4.length c0_4]] rfl (by (try simp only [List.map_toArray, List.map_cons, List.map_nil]); first | done | rfl | (simp only [List.length_drop, List.length_take]; rfl) | (simp [Act.eval]; first | (rw [KY24.out, KY35.out, ← hji15, ← hji49]; done) | (rw [KY24.out, KY55.out, ← hji15, ← hji49]; done) | (rw [KY24.out, KY61.out, ← hji15, ← hji49]; done) | (rw [KY35.out, KY24.out, ← hji15, ← hji49]; done) | (rw [KY35.out, KY55.out, ← hji15, ← hji49]; done) | (rw [KY35.out, KY61.out, ← hji15, ← hji49]; done) | (rw [KY55.out, KY24.out, ← hji15, ← hji49]; done) | (rw [KY55.out, KY35.out, ← hji15, ← hji49]; done) | (rw [KY55.out, KY61.out, ← hji15, ← hji49]; done) | (rw [KY61.out, KY24.out, ← hji15, ← hji49]; done) | (rw [KY61.out, KY35.out, ← hji15, ← hji49]; done) | (rw [KY61.out, KY55.out, ← hji15, ← hji49]; done))) ?_; (with_reducible refine (frame_Head.calls a0_0 a0_1 a0_2 a0_3 _ _ l0_4 t253 _ ?side1 ?side2 A19.out).mono ?_); (case side1 => repeat (first | exact (Kd.C_below HR0_4.out HB.out) | (with_reducible refine Kd.C_alloc ?_ _) | (with_reducible refine Kd.C_drewN ?_ _) | (with_reducible refine Kd.C_drew ?_))); (case side2 => exact HC0_4.out); rintro e w27 ⟨v254, rfl, ho0, hb⟩; refine ⟨_, rfl, ?_⟩; have n0_ := Aside0.mk (Kd.R_elder' (by (with_reducible repeat (first | apply Kd.R_alloc | apply Kd.R_drewN | apply Kd.R_drew)); exact HO244.out) (Kd.R_base ho0) hb); have n1_ := Aside0.mk (Kd.R_elder' (by (with_reducible repeat (first | apply Kd.R_alloc | apply Kd.R_drewN | apply Kd.R_drew)); exact HO252.out) (Kd.R_base ho0) hb); have n2_ := Aside0.mk (Kd.R_lower (Kd.R_new' (Kd.R_new' ho0 (Kd.R_lt (by (with_reducible repeat (first | apply Kd.R_alloc | apply Kd.R_drewN | apply Kd.R_drew)); exact HO244.out))) (Kd.R_lt (by (with_reducible repeat (first | apply Kd.R_alloc | apply Kd.R_drewN | apply Kd.R_drew)); exact HO252.out))) (below_size (by repeat (first | (with_reducible first | exact HB.out | apply below_alloc | apply pw_below_drewN | apply below_drew1 | refine below_set ?_ GE239.out) | exact HB.out)))); have n3_ := Aside0.mk (blk_below (g := gb239) (o := .cells #[.bool a0_0, .int .i64 a0_1, .bool a0_2, .int .i64 a0_3, .slice A0_4 l0_4.length c0_4] 26 (0, 0)) (by (with_reducible repeat (first | refine blk_drewN ?_ _ | refine blk_drew ?_ | refine blk_alloc ?_ _)); exact BK239.out) hb); have n4_ := Aside0.mk (Kd.C_below (by repeat (first | (with_reducible exact HR248.out) | (with_reducible refine Kd.C_alloc ?_ _) | (with_reducible refine Kd.C_drewN ?_ _) | (with_reducible refine Kd.C_drew ?_) | exact HR248.out)) hb); have n5_ := Aside0.mk (below_step (by repeat (first | (with_reducible first | exact HB.out | apply below_alloc | apply pw_below_drewN | apply below_drew1 | refine below_set ?_ GE239.out) | exact HB.out)) hb); clear HO244; clear HO252; clear BK239; clear HR248; clear HB; have HO244 := n0_; have HO252 := n1_; have HO255 := n2_; have BK239 := n3_; have HR248 := n4_; have HB := n5_; clear n0_ n1_ n2_ n3_ n4_ n5_; (try clear hb); (try clear hb2); (try clear hk); (try clear hi); (try clear ho0)))
              (try simp only [Act.put, List.setIfInBounds_toArray, List.set_cons_zero, List.set_cons_succ])
              go_cut [55] (fun v55 wc => ∃ (kq : Nat) (x55_19 : Bool), v55 = .bool x55_19 ∧ Aside0 (phaetontop_TopBare.j1 kq t240 t242 t249 t253 x55_19 = some r) ∧ Aside0 (kq ≤ kj2) ∧ Aside0 (Kd.R (Kd.int .i64) 3 wc w.heap.size (fun k_ => some k_ ≠ (v251 : Value).ownBlock ∧ some k_ ≠ (v254 : Value).ownBlock) (.slice Ao23 t242.length co23) t242) ∧ Aside0 (Kd.R (Kd.int .i64) 3 wc w.heap.size (fun k_ => some k_ ≠ ((.slice Ao23 t242.length co23) : Value).ownBlock ∧ some k_ ≠ (v254 : Value).ownBlock) v251 t249) ∧ Aside0 (Kd.R (Kd.int .i64) 3 wc w.heap.size (fun k_ => some k_ ≠ ((.slice Ao23 t242.length co23) : Value).ownBlock ∧ some k_ ≠ (v251 : Value).ownBlock) v254 t253) ∧ Aside0 (wc.heap[gb239]? = some (.cells #[.bool a0_0, .int .i64 a0_1, .bool a0_2, .int .i64 a0_3, (.slice A0_4 l0_4.length c0_4)] 26 (0, 0))) ∧ Aside0 (Kd.C (Kd.int .i64) wc Ao23 y245.length y245) ∧ Aside0 (Below w.heap.size w wc))
              case first =>
                have H := HC20.out
                clear HC20
                by_cases c28 : t250 = (-1)
                · rw [if_pos c28] at H
                  have c28b0 : (t250 == (-1)) = true := beq_iff_eq.mpr c28
                  have c28b1 : (t250 != (-1)) = false := bne_eq_false_iff_eq.mpr c28
                  clear c28
                  (first | rw [c28b0] | (simp only [i64_w, i32_w]; rw [c28b0]) | skip)
                  by_cases c29 : (t249.length : Int) = (wrap64 ((t253.length : Int) + 15))
                  · rw [if_pos c29] at H
                    have c29b0 : ((t249.length : Int) == (wrap64 ((t253.length : Int) + 15))) = true := beq_iff_eq.mpr c29
                    have c29b1 : ((t249.length : Int) != (wrap64 ((t253.length : Int) + 15))) = false := bne_eq_false_iff_eq.mpr c29
                    clear c29
                    by_cases c30 : 0 ≤ (t253.length : Int)
                    · rw [if_pos c30] at H
                      have c30b0 := eq_true c30
                      have c30b1 : decide (0 ≤ (t253.length : Int)) = true := decide_eq_true c30
                      clear c30
                      by_cases c31 : (t253.length : Int) ≤ (t249.length : Int)
                      · rw [if_pos c31] at H
                        have c31b0 := eq_true c31
                        have c31b1 : decide ((t253.length : Int) ≤ (t249.length : Int)) = true := decide_eq_true c31
                        clear c31
                        obtain ⟨y256, hy256⟩ : ∃ y_ : List Int, y_ = (t249.take ((t253.length : Int) : Int).toNat) := ⟨_, rfl⟩
                        replace H : ((phaetonref01_Same.f kj2 y256 t253).bind fun t260 => (phaetontop_TopBare.j1 kj2 t240 t242 t249 t253 (!t260))) = some r := by first | (rw [hy256]; with_reducible exact H) | (have H2_ := (Option.bind_some _ _).symm.trans H; rw [hy256]; with_reducible exact H2_) | (have H2_ := (Option.bind_some _ _).symm.trans H; with_reducible exact H2_) | with_reducible exact H | (rw [hy256]; exact H) | exact H
                        have Ny256 := Aside0.mk hy256
                        clear hy256
                        replace H := Option.bind_eq_some_iff.mp H
                        obtain ⟨t260, A320, H⟩ := H
                        replace H : (phaetontop_TopBare.j1 kj2 t240 t242 t249 t253 (!t260)) = some r := H
                        have A32 := Aside0.mk A320
                        clear A320
                        have H' := Aside0.mk H
                        clear H
                        obtain ⟨Ao33, co33, eo33⟩ := Kd.R_slice HO252.out
                        subst eo33
                        obtain ⟨Ao34, co34, eo34⟩ := Kd.R_slice HO255.out
                        subst eo34
                        have q35 : ((t253.length : Int) : Int) ≤ ((t249.length : Int) : Int) := of_decide_eq_true (by first | (with_reducible assumption) | assumption)
                        obtain ⟨i035, hi035, _, hsz35, _⟩ := info_parts info3
                        have hroom35 : t249.length ≤ co33 := (Kd.R_reads' HO252.out).2.1
                        have hC35 : Kd.C (Kd.int .i64) _ Ao33 t249.length t249 := (Kd.R_reads' HO252.out).2.2
                        have hcut35 := cut_to (P := Try.prog) 30 3 .i64 Try.underlying30 hi035 Ao33 t249.length co33 (t253.length : Int) (of_decide_eq_true (by first | (with_reducible assumption) | assumption)) q35 hroom35
                        have hr35 := Kd.C_take (m := ((t253.length : Int) : Int).toNat) hC35 (by omega)
                        have hy35 : y256.length = ((t253.length : Int) : Int).toNat := (by rw [Ny256.out, List.length_take]; omega)
                        rw [← Ny256.out] at hr35
                        rw [← hy35] at hcut35
                        have HR259 := Aside0.mk hr35
                        have HC259 := Aside0.mk (show y256.length ≤ co33 from by omega)
                        clear hr35 hC35 hroom35 hi035 hsz35
                        have KY35 := Aside0.mk hy35
                        clear hy35
                        have KL35 := Aside0.mk (show ((t253.length : Int) : Int).toNat ≤ t249.length from by omega)
                        replace q35 := eq_true q35
                        go_wp2_with (first | (go_at_call 9; (with_reducible refine (phaetonref01_Same.calls kj2 _ _ y256 _ _ t253 t260 _ ?side1 ?side2 ?side3 ?side4 A32.out).mono ?_); (case side1 => repeat (first | exact (by repeat (first | (with_reducible exact HR259.out) | (with_reducible refine Kd.C_alloc ?_ _) | (with_reducible refine Kd.C_drewN ?_ _) | (with_reducible refine Kd.C_drew ?_) | exact HR259.out)) | (with_reducible refine Kd.C_alloc ?_ _) | (with_reducible refine Kd.C_drewN ?_ _) | (with_reducible refine Kd.C_drew ?_))); (case side2 => exact HC259.out); (case side3 => repeat (first | exact (Kd.R_reads' HO255.out).2.2 | (with_reducible refine Kd.C_alloc ?_ _) | (with_reducible refine Kd.C_drewN ?_ _) | (with_reducible refine Kd.C_drew ?_))); (case side4 => exact (Kd.R_reads' HO255.out).2.1); rintro e w' ⟨rfl, ⟨nd, rfl⟩⟩))
                        go_meet
                        case rel => exact ⟨_, (!t260), (by first | rfl | (simp; done) | (simp [*]; done)), H', ⟨by have := HJ2.out; first | omega | exact Nat.le_refl _⟩, ⟨by (with_reducible repeat (first | apply Kd.R_alloc | apply Kd.R_drewN | apply Kd.R_drew)); exact Kd.R_mono HO244.out (fun k_ hk => by first | exact ⟨hk.1.2, hk.2⟩ | (refine ⟨?_, ?_⟩ <;> first | exact hk.1 | exact hk.2 | exact hk.1.2 | exact hk.2.2 | exact hk.1.1 | exact hk.2.1))⟩, ⟨by (with_reducible repeat (first | apply Kd.R_alloc | apply Kd.R_drewN | apply Kd.R_drew)); exact Kd.R_mono HO252.out (fun k_ hk => by first | exact ⟨hk.1.2, hk.2⟩ | (refine ⟨?_, ?_⟩ <;> first | exact hk.1 | exact hk.2 | exact hk.1.2 | exact hk.2.2 | exact hk.1.1 | exact hk.2.1))⟩, ⟨by (with_reducible repeat (first | apply Kd.R_alloc | apply Kd.R_drewN | apply Kd.R_drew)); exact Kd.R_mono HO255.out (fun k_ hk => by first | exact ⟨hk.1.2, hk.2⟩ | (refine ⟨?_, ?_⟩ <;> first | exact hk.1 | exact hk.2 | exact hk.1.2 | exact hk.2.2 | exact hk.1.1 | exact hk.2.1))⟩, ⟨by (with_reducible repeat (first | refine blk_drewN ?_ _ | refine blk_drew ?_ | refine blk_alloc ?_ _)); exact BK239.out⟩, ⟨by repeat (first | (with_reducible exact HR248.out) | (with_reducible refine Kd.C_alloc ?_ _) | (with_reducible refine Kd.C_drewN ?_ _) | (with_reducible refine Kd.C_drew ?_) | exact HR248.out)⟩, ⟨by repeat (first | (with_reducible first | exact HB.out | apply below_alloc | apply pw_below_drewN | apply below_drew1 | refine below_set ?_ GE239.out) | exact HB.out)⟩⟩
                      · rw [if_neg c31] at H
                        exact absurd H (by simp)
                    · rw [if_neg c30] at H
                      exact absurd H (by simp)
                  · rw [if_neg c29] at H
                    have c29b0 : ((t249.length : Int) == (wrap64 ((t253.length : Int) + 15))) = false := beq_eq_false_iff_ne.mpr c29
                    have c29b1 : ((t249.length : Int) != (wrap64 ((t253.length : Int) + 15))) = true := bne_iff_ne.mpr c29
                    have H' := Aside0.mk H
                    clear H
                    obtain ⟨Ao36, co36, eo36⟩ := Kd.R_slice HO252.out
                    subst eo36
                    obtain ⟨Ao37, co37, eo37⟩ := Kd.R_slice HO255.out
                    subst eo37
                    go_wp2
                    go_meet
                    case rel => exact ⟨_, (true), (by first | rfl | (simp; done) | (simp [*]; done)), H', ⟨by have := HJ2.out; first | omega | exact Nat.le_refl _⟩, ⟨by (with_reducible repeat (first | apply Kd.R_alloc | apply Kd.R_drewN | apply Kd.R_drew)); exact Kd.R_mono HO244.out (fun k_ hk => by first | exact ⟨hk.1.2, hk.2⟩ | (refine ⟨?_, ?_⟩ <;> first | exact hk.1 | exact hk.2 | exact hk.1.2 | exact hk.2.2 | exact hk.1.1 | exact hk.2.1))⟩, ⟨by (with_reducible repeat (first | apply Kd.R_alloc | apply Kd.R_drewN | apply Kd.R_drew)); exact Kd.R_mono HO252.out (fun k_ hk => by first | exact ⟨hk.1.2, hk.2⟩ | (refine ⟨?_, ?_⟩ <;> first | exact hk.1 | exact hk.2 | exact hk.1.2 | exact hk.2.2 | exact hk.1.1 | exact hk.2.1))⟩, ⟨by (with_reducible repeat (first | apply Kd.R_alloc | apply Kd.R_drewN | apply Kd.R_drew)); exact Kd.R_mono HO255.out (fun k_ hk => by first | exact ⟨hk.1.2, hk.2⟩ | (refine ⟨?_, ?_⟩ <;> first | exact hk.1 | exact hk.2 | exact hk.1.2 | exact hk.2.2 | exact hk.1.1 | exact hk.2.1))⟩, ⟨by (with_reducible repeat (first | refine blk_drewN ?_ _ | refine blk_drew ?_ | refine blk_alloc ?_ _)); exact BK239.out⟩, ⟨by repeat (first | (with_reducible exact HR248.out) | (with_reducible refine Kd.C_alloc ?_ _) | (with_reducible refine Kd.C_drewN ?_ _) | (with_reducible refine Kd.C_drew ?_) | exact HR248.out)⟩, ⟨by repeat (first | (with_reducible first | exact HB.out | apply below_alloc | apply pw_below_drewN | apply below_drew1 | refine below_set ?_ GE239.out) | exact HB.out)⟩⟩
                · rw [if_neg c28] at H
                  have c28b0 : (t250 == (-1)) = false := beq_eq_false_iff_ne.mpr c28
                  have c28b1 : (t250 != (-1)) = true := bne_iff_ne.mpr c28
                  (first | rw [c28b0] | (simp only [i64_w, i32_w]; rw [c28b0]) | skip)
                  have H' := Aside0.mk H
                  clear H
                  go_wp2
                  go_meet
                  case rel => exact ⟨_, (true), (by first | rfl | (simp; done) | (simp [*]; done)), H', ⟨by have := HJ2.out; first | omega | exact Nat.le_refl _⟩, ⟨by (with_reducible repeat (first | apply Kd.R_alloc | apply Kd.R_drewN | apply Kd.R_drew)); exact Kd.R_mono HO244.out (fun k_ hk => by first | exact ⟨hk.1.2, hk.2⟩ | (refine ⟨?_, ?_⟩ <;> first | exact hk.1 | exact hk.2 | exact hk.1.2 | exact hk.2.2 | exact hk.1.1 | exact hk.2.1))⟩, ⟨by (with_reducible repeat (first | apply Kd.R_alloc | apply Kd.R_drewN | apply Kd.R_drew)); exact Kd.R_mono HO252.out (fun k_ hk => by first | exact ⟨hk.1.2, hk.2⟩ | (refine ⟨?_, ?_⟩ <;> first | exact hk.1 | exact hk.2 | exact hk.1.2 | exact hk.2.2 | exact hk.1.1 | exact hk.2.1))⟩, ⟨by (with_reducible repeat (first | apply Kd.R_alloc | apply Kd.R_drewN | apply Kd.R_drew)); exact Kd.R_mono HO255.out (fun k_ hk => by first | exact ⟨hk.1.2, hk.2⟩ | (refine ⟨?_, ?_⟩ <;> first | exact hk.1 | exact hk.2 | exact hk.1.2 | exact hk.2.2 | exact hk.1.1 | exact hk.2.1))⟩, ⟨by (with_reducible repeat (first | refine blk_drewN ?_ _ | refine blk_drew ?_ | refine blk_alloc ?_ _)); exact BK239.out⟩, ⟨by repeat (first | (with_reducible exact HR248.out) | (with_reducible refine Kd.C_alloc ?_ _) | (with_reducible refine Kd.C_drewN ?_ _) | (with_reducible refine Kd.C_drew ?_) | exact HR248.out)⟩, ⟨by repeat (first | (with_reducible first | exact HB.out | apply below_alloc | apply pw_below_drewN | apply below_drew1 | refine below_set ?_ GE239.out) | exact HB.out)⟩⟩
              case rest =>
                clear HC20
                try clear c1
                try clear c2
                try clear p2
                try clear q2
                try clear c3
                try clear q3
                try clear c5
                try clear c6
                try clear c6b0
                try clear c6b1
                try clear p6
                try clear c11
                try clear c12
                try clear c13
                try clear c14
                try clear c14b0
                try clear c14b1
                try clear c16
                try clear c16b0
                try clear c16b1
                try clear c17
                try clear c17b0
                try clear c17b1
                try clear q24
                try clear c28
                try clear c28b0
                try clear c28b1
                try clear c29
                try clear c29b0
                try clear c29b1
                try clear c30
                try clear c30b0
                try clear c30b1
                try clear c31
                try clear c31b0
                try clear c31b1
                try clear q35
                try clear hcz21_0
                try clear hcz21_1
                try clear hcz21_2
                try clear hcz21_3
                try clear hcz21_4
                try clear hcz26_0
                try clear hcz26_1
                try clear hcz26_2
                try clear hcz26_3
                try clear hcz26_4
                try clear hcz7_0
                try clear hcz7_1
                try clear hcz7_2
                try clear hcz7_3
                try clear hcz7_4
                try clear hcz9_0
                try clear hcz9_1
                try clear hcz9_2
                try clear hcz9_3
                try clear hcz9_4
                try clear hfz21_0
                try clear hfz21_1
                try clear hfz21_2
                try clear hfz21_3
                try clear hfz21_4
                try clear hfz26_0
                try clear hfz26_1
                try clear hfz26_2
                try clear hfz26_3
                try clear hfz26_4
                try clear hfz7_0
                try clear hfz7_1
                try clear hfz7_2
                try clear hfz7_3
                try clear hfz7_4
                try clear hfz9_0
                try clear hfz9_1
                try clear hfz9_2
                try clear hfz9_3
                try clear hfz9_4
                try clear p2
                try clear q24
                try clear q35
                obtain ⟨kq, x55_19, rfl, HA, HJ19, HO_4, HO_5, HO_7, BK239, HR248, HB⟩ := hcut
                cases kq with
                | zero => exact absurd HA.out (by simp [phaetontop_TopBare.j1])
                | succ kj19 =>
                  have H := HA.out
                  clear HA
                  simp only [phaetontop_TopBare.j1] at H
                  by_cases c38 : x55_19 = true
                  · subst c38
                    have H1 : (none) = some r := by rw [if_pos rfl] at H; exact H
                    clear H
                    have H := H1
                    clear H1
                    exact absurd H (by simp)
                  · replace c38 := Bool.eq_false_iff.mpr c38
                    subst c38
                    have H1 : (if 0 ≤ (t253.length : Int) then (if (t253.length : Int) ≤ (t249.length : Int) then ((bits_Get.f kj19 (t249.drop ((t253.length : Int) : Int).toNat)).bind fun bt265 => (if t240 = true then (if bt265.2 = true then ((crc_Bits.f t253).bind fun t267 => (if bt265.1 = t267 then ((crc_Bits.f t249).bind fun t268 => (if t268 = 0 then ((stuff_Stuff.f t249).bind fun t269 => (if 0 ≤ (wrap64 ((t242.length : Int) - 10)) then (if (wrap64 ((t242.length : Int) - 10)) ≤ (t242.length : Int) then ((phaetonref01_Same.f kj19 t269 (t242.take ((wrap64 ((t242.length : Int) - 10)) : Int).toNat)).bind fun t276 => (if t276 = true then (some true) else (none))) else (none)) else (none))) else (none))) else (none))) else (none)) else (none))) else (none)) else (none)) = some r := by rw [if_neg (show ¬ (false = true) by decide)] at H; exact H
                    clear H
                    have H := H1
                    clear H1
                    by_cases c39 : 0 ≤ (t253.length : Int)
                    · rw [if_pos c39] at H
                      have c39b0 := eq_true c39
                      have c39b1 : decide (0 ≤ (t253.length : Int)) = true := decide_eq_true c39
                      clear c39
                      by_cases c40 : (t253.length : Int) ≤ (t249.length : Int)
                      · rw [if_pos c40] at H
                        have c40b0 := eq_true c40
                        have c40b1 : decide ((t253.length : Int) ≤ (t249.length : Int)) = true := decide_eq_true c40
                        clear c40
                        obtain ⟨y261, hy261⟩ : ∃ y_ : List Int, y_ = (t249.drop ((t253.length : Int) : Int).toNat) := ⟨_, rfl⟩
                        replace H : ((bits_Get.f kj19 y261).bind fun bt265 => (if t240 = true then (if bt265.2 = true then ((crc_Bits.f t253).bind fun t267 => (if bt265.1 = t267 then ((crc_Bits.f t249).bind fun t268 => (if t268 = 0 then ((stuff_Stuff.f t249).bind fun t269 => (if 0 ≤ (wrap64 ((t242.length : Int) - 10)) then (if (wrap64 ((t242.length : Int) - 10)) ≤ (t242.length : Int) then ((phaetonref01_Same.f kj19 t269 (t242.take ((wrap64 ((t242.length : Int) - 10)) : Int).toNat)).bind fun t276 => (if t276 = true then (some true) else (none))) else (none)) else (none))) else (none))) else (none))) else (none)) else (none))) = some r := by first | (rw [hy261]; with_reducible exact H) | (have H2_ := (Option.bind_some _ _).symm.trans H; rw [hy261]; with_reducible exact H2_) | (have H2_ := (Option.bind_some _ _).symm.trans H; with_reducible exact H2_) | with_reducible exact H | (rw [hy261]; exact H) | exact H
                        have Ny261 := Aside0.mk hy261
                        clear hy261
                        replace H := Option.bind_eq_some_iff.mp H
                        obtain ⟨⟨t265, t266⟩, A410, H⟩ := H
                        replace H : (if t240 = true then (if t266 = true then ((crc_Bits.f t253).bind fun t267 => (if t265 = t267 then ((crc_Bits.f t249).bind fun t268 => (if t268 = 0 then ((stuff_Stuff.f t249).bind fun t269 => (if 0 ≤ (wrap64 ((t242.length : Int) - 10)) then (if (wrap64 ((t242.length : Int) - 10)) ≤ (t242.length : Int) then ((phaetonref01_Same.f kj19 t269 (t242.take ((wrap64 ((t242.length : Int) - 10)) : Int).toNat)).bind fun t276 => (if t276 = true then (some true) else (none))) else (none)) else (none))) else (none))) else (none))) else (none)) else (none)) = some r := H
                        have A41 := Aside0.mk A410
                        clear A410
                        by_cases c42 : t240 = true
                        · subst c42
                          have H1 : (if t266 = true then ((crc_Bits.f t253).bind fun t267 => (if t265 = t267 then ((crc_Bits.f t249).bind fun t268 => (if t268 = 0 then ((stuff_Stuff.f t249).bind fun t269 => (if 0 ≤ (wrap64 ((t242.length : Int) - 10)) then (if (wrap64 ((t242.length : Int) - 10)) ≤ (t242.length : Int) then ((phaetonref01_Same.f kj19 t269 (t242.take ((wrap64 ((t242.length : Int) - 10)) : Int).toNat)).bind fun t276 => (if t276 = true then (some true) else (none))) else (none)) else (none))) else (none))) else (none))) else (none)) = some r := by rw [if_pos rfl] at H; exact H
                          clear H
                          have H := H1
                          clear H1
                          by_cases c43 : t266 = true
                          · subst c43
                            have H1 : ((crc_Bits.f t253).bind fun t267 => (if t265 = t267 then ((crc_Bits.f t249).bind fun t268 => (if t268 = 0 then ((stuff_Stuff.f t249).bind fun t269 => (if 0 ≤ (wrap64 ((t242.length : Int) - 10)) then (if (wrap64 ((t242.length : Int) - 10)) ≤ (t242.length : Int) then ((phaetonref01_Same.f kj19 t269 (t242.take ((wrap64 ((t242.length : Int) - 10)) : Int).toNat)).bind fun t276 => (if t276 = true then (some true) else (none))) else (none)) else (none))) else (none))) else (none))) = some r := by rw [if_pos rfl] at H; exact H
                            clear H
                            have H := H1
                            clear H1
                            replace H := Option.bind_eq_some_iff.mp H
                            obtain ⟨t267, A440, H⟩ := H
                            replace H : (if t265 = t267 then ((crc_Bits.f t249).bind fun t268 => (if t268 = 0 then ((stuff_Stuff.f t249).bind fun t269 => (if 0 ≤ (wrap64 ((t242.length : Int) - 10)) then (if (wrap64 ((t242.length : Int) - 10)) ≤ (t242.length : Int) then ((phaetonref01_Same.f kj19 t269 (t242.take ((wrap64 ((t242.length : Int) - 10)) : Int).toNat)).bind fun t276 => (if t276 = true then (some true) else (none))) else (none)) else (none))) else (none))) else (none)) = some r := H
                            have A44 := Aside0.mk A440
                            clear A440
                            by_cases c45 : t265 = t267
                            · rw [if_pos c45] at H
                              have c45b0 : (t265 == t267) = true := beq_iff_eq.mpr c45
                              have c45b1 : (t265 != t267) = false := bne_eq_false_iff_eq.mpr c45
                              clear c45
                              replace H := Option.bind_eq_some_iff.mp H
                              obtain ⟨t268, A460, H⟩ := H
                              replace H : (if t268 = 0 then ((stuff_Stuff.f t249).bind fun t269 => (if 0 ≤ (wrap64 ((t242.length : Int) - 10)) then (if (wrap64 ((t242.length : Int) - 10)) ≤ (t242.length : Int) then ((phaetonref01_Same.f kj19 t269 (t242.take ((wrap64 ((t242.length : Int) - 10)) : Int).toNat)).bind fun t276 => (if t276 = true then (some true) else (none))) else (none)) else (none))) else (none)) = some r := H
                              have A46 := Aside0.mk A460
                              clear A460
                              by_cases c47 : t268 = 0
                              · rw [if_pos c47] at H
                                have c47b0 : (t268 == 0) = true := beq_iff_eq.mpr c47
                                have c47b1 : (t268 != 0) = false := bne_eq_false_iff_eq.mpr c47
                                clear c47
                                replace H := Option.bind_eq_some_iff.mp H
                                obtain ⟨t269, A480, H⟩ := H
                                replace H : (if 0 ≤ (wrap64 ((t242.length : Int) - 10)) then (if (wrap64 ((t242.length : Int) - 10)) ≤ (t242.length : Int) then ((phaetonref01_Same.f kj19 t269 (t242.take ((wrap64 ((t242.length : Int) - 10)) : Int).toNat)).bind fun t276 => (if t276 = true then (some true) else (none))) else (none)) else (none)) = some r := H
                                have A48 := Aside0.mk A480
                                clear A480
                                obtain ⟨ji49, hji49⟩ : ∃ j_ : Int, (wrap64 ((t242.length : Int) - 10)) = j_ := ⟨_, rfl⟩
                                replace H : (if 0 ≤ (ji49) then (if (ji49) ≤ (t242.length : Int) then ((phaetonref01_Same.f kj19 t269 (t242.take ((ji49) : Int).toNat)).bind fun t276 => (if t276 = true then (some true) else (none))) else (none)) else (none)) = some r := by first | (rw [hji49] at H; exact H) | (simp only [hji49] at H ⊢; exact H)
                                (try rw [hji49] at A41)
                                (try rw [hji49] at A44)
                                (try rw [hji49] at A46)
                                (try rw [hji49] at A48)
                                have hji49w : (IntKind.i64.wrap ((t242.length : Int) - 10)) = ji49 := (i64_w _).trans hji49
                                by_cases c50 : 0 ≤ (ji49)
                                · rw [if_pos c50] at H
                                  have c50b0 := eq_true c50
                                  have c50b1 : decide (0 ≤ (ji49)) = true := decide_eq_true c50
                                  have c50m : max (ji49) 0 = (ji49) := by omega
                                  clear c50
                                  by_cases c51 : (ji49) ≤ (t242.length : Int)
                                  · rw [if_pos c51] at H
                                    have c51b0 := eq_true c51
                                    have c51b1 : decide ((ji49) ≤ (t242.length : Int)) = true := decide_eq_true c51
                                    clear c51
                                    obtain ⟨y272, hy272⟩ : ∃ y_ : List Int, y_ = (t242.take ((ji49) : Int).toNat) := ⟨_, rfl⟩
                                    replace H : ((phaetonref01_Same.f kj19 t269 y272).bind fun t276 => (if t276 = true then (some true) else (none))) = some r := by first | (rw [hy272]; with_reducible exact H) | (have H2_ := (Option.bind_some _ _).symm.trans H; rw [hy272]; with_reducible exact H2_) | (have H2_ := (Option.bind_some _ _).symm.trans H; with_reducible exact H2_) | with_reducible exact H | (rw [hy272]; exact H) | exact H
                                    have Ny272 := Aside0.mk hy272
                                    clear hy272
                                    replace H := Option.bind_eq_some_iff.mp H
                                    obtain ⟨t276, A520, H⟩ := H
                                    replace H : (if t276 = true then (some true) else (none)) = some r := H
                                    have A52 := Aside0.mk A520
                                    clear A520
                                    by_cases c53 : t276 = true
                                    · subst c53
                                      have H1 : (some true) = some r := by rw [if_pos rfl] at H; exact H
                                      clear H
                                      have H := H1
                                      clear H1
                                      obtain rfl := Option.some.inj H
                                      obtain ⟨Ao54, co54, eo54⟩ := Kd.R_slice HO_7.out
                                      subst eo54
                                      obtain ⟨Ao56, co56, eo56⟩ := Kd.R_slice HO_5.out
                                      subst eo56
                                      have q55 : ((t253.length : Int) : Int) ≤ ((t249.length : Int) : Int) := of_decide_eq_true (by first | (with_reducible assumption) | assumption)
                                      obtain ⟨i055, hi055, _, hsz55, _⟩ := info_parts info3
                                      have hroom55 : t249.length ≤ co56 := (Kd.R_reads' HO_5.out).2.1
                                      have hC55 : Kd.C (Kd.int .i64) _ Ao56 t249.length t249 := (Kd.R_reads' HO_5.out).2.2
                                      have q055 : (0 : Int) ≤ ((t253.length : Int) : Int) := of_decide_eq_true (by first | (with_reducible assumption) | assumption)
                                      have hcut55 := cut_from (P := Try.prog) 30 3 .i64 Try.underlying30 hi055 1 hsz55 Ao56 t249.length co56 (t253.length : Int) q055 q55
                                      have hr55 := Kd.C_drop (m := ((t253.length : Int) : Int).toNat) (c := co56) hC55 (by omega) hroom55
                                      obtain ⟨A55, hA55⟩ : ∃ A1, A1 = (if co56 = ((t253.length : Int) : Int).toNat then Ao56 else (Ao56 : Option Addr).map (·.add (((t253.length : Int) : Int).toNat * 1))) := ⟨_, rfl⟩
                                      obtain ⟨c55, hc55⟩ : ∃ c1, c1 = co56 - ((t253.length : Int) : Int).toNat := ⟨_, rfl⟩
                                      have hy55 : y261.length = t249.length - ((t253.length : Int) : Int).toNat := (by rw [Ny261.out, List.length_drop] <;> omega)
                                      rw [show (t249).drop ((t253.length : Int) : Int).toNat = y261 from Ny261.out.symm] at hr55
                                      replace hr55 : Kd.C (Kd.int .i64) _ A55 y261.length y261 := (by rw [hA55]; exact hr55)
                                      rw [← hy55, ← hA55, ← hc55] at hcut55
                                      have HR264 := Aside0.mk hr55
                                      have HC264 := Aside0.mk (show y261.length ≤ c55 from by rw [hy55, hc55]; exact Nat.sub_le_sub_right hroom55 _)
                                      clear hr55 hC55 hroom55 hi055 hsz55 hc55
                                      have KY55 := Aside0.mk hy55
                                      have KA55 := Aside0.mk hA55
                                      clear hy55 hA55
                                      have KL55 := Aside0.mk (show ((t253.length : Int) : Int).toNat ≤ t249.length from by omega)
                                      replace q55 := eq_true q55
                                      try go_wp2_with (first | ((with_reducible refine gate_callee (f := 18) rfl ?_); refine goesL_ (some 61) rfl rfl Try.func18 (by kernel_rfl) rfl #[.slice A55 y261.length c55] rfl (by (try simp only [List.map_toArray, List.map_cons, List.map_nil]); first | done | rfl | (simp only [List.length_drop, List.length_take]; rfl) | (simp [Act.eval]; first | (rw [KY24.out, KY35.out, ← hji15, ← hji49]; done) | (rw [KY24.out, KY55.out, ← hji15, ← hji49]; done) | (rw [KY24.out, KY61.out, ← hji15, ← hji49]; done) | (rw [KY35.out, KY24.out, ← hji15, ← hji49]; done) | (rw [KY35.out, KY55.out, ← hji15, ← hji49]; done) | (rw [KY35.out, KY61.out, ← hji15, ← hji49]; done) | (rw [KY55.out, KY24.out, ← hji15, ← hji49]; done) | (rw [KY55.out, KY35.out, ← hji15, ← hji49]; done) | (rw [KY55.out, KY61.out, ← hji15, ← hji49]; done) | (rw [KY61.out, KY24.out, ← hji15, ← hji49]; done) | (rw [KY61.out, KY35.out, ← hji15, ← hji49]; done) | (rw [KY61.out, KY55.out, ← hji15, ← hji49]; done))) ?_; (with_reducible refine (bits_Get.calls kj19 _ _ y261 t265 true _ ?side1 ?side2 A41.out).mono ?_); (case side1 => repeat (first | exact (by repeat (first | (with_reducible exact HR264.out) | (with_reducible refine Kd.C_alloc ?_ _) | (with_reducible refine Kd.C_drewN ?_ _) | (with_reducible refine Kd.C_drew ?_) | exact HR264.out)) | (with_reducible refine Kd.C_alloc ?_ _) | (with_reducible refine Kd.C_drewN ?_ _) | (with_reducible refine Kd.C_drew ?_))); (case side2 => exact HC264.out); rintro e w' ⟨rfl, ⟨nd, rfl⟩⟩; refine ⟨_, rfl, ?_⟩))
                                      (try (rw [drewN_self wc]; generalize hq_ : World.drewN wc _ = wc; have n0_ : Aside0 (Kd.R (Kd.int .i64) 3 wc w.heap.size (fun k_ => some k_ ≠ (.slice Ao56 t249.length co56 : Value).ownBlock ∧ some k_ ≠ (.slice Ao54 t253.length co54 : Value).ownBlock) (.slice Ao23 t242.length co23) t242) := ⟨by rw [← hq_]; exact (by (with_reducible repeat (first | apply Kd.R_alloc | apply Kd.R_drewN | apply Kd.R_drew)); exact HO_4.out)⟩; have n1_ : Aside0 (Kd.R (Kd.int .i64) 3 wc w.heap.size (fun k_ => some k_ ≠ (.slice Ao23 t242.length co23 : Value).ownBlock ∧ some k_ ≠ (.slice Ao54 t253.length co54 : Value).ownBlock) (.slice Ao56 t249.length co56) t249) := ⟨by rw [← hq_]; exact (by (with_reducible repeat (first | apply Kd.R_alloc | apply Kd.R_drewN | apply Kd.R_drew)); exact HO_5.out)⟩; have n2_ : Aside0 (Kd.R (Kd.int .i64) 3 wc w.heap.size (fun k_ => some k_ ≠ (.slice Ao23 t242.length co23 : Value).ownBlock ∧ some k_ ≠ (.slice Ao56 t249.length co56 : Value).ownBlock) (.slice Ao54 t253.length co54) t253) := ⟨by rw [← hq_]; exact (by (with_reducible repeat (first | apply Kd.R_alloc | apply Kd.R_drewN | apply Kd.R_drew)); exact HO_7.out)⟩; have n3_ : Aside0 (wc.heap[gb239]? = some (.cells #[.bool a0_0, .int .i64 a0_1, .bool a0_2, .int .i64 a0_3, .slice A0_4 l0_4.length c0_4] 26 (0, 0))) := ⟨by rw [← hq_]; exact (by (with_reducible repeat (first | refine blk_drewN ?_ _ | refine blk_drew ?_ | refine blk_alloc ?_ _)); exact BK239.out)⟩; have n4_ : Aside0 (Below w.heap.size w wc) := ⟨by rw [← hq_]; exact (by repeat (first | (with_reducible first | exact HB.out | apply below_alloc | apply pw_below_drewN | apply below_drew1 | refine below_set ?_ GE239.out) | exact HB.out))⟩; have n5_ : Aside0 (Kd.C (Kd.int .i64) wc A55 y261.length y261) := ⟨by rw [← hq_]; exact (by repeat (first | (with_reducible exact HR264.out) | (with_reducible refine Kd.C_alloc ?_ _) | (with_reducible refine Kd.C_drewN ?_ _) | (with_reducible refine Kd.C_drew ?_) | exact HR264.out))⟩; (try (have nx_ := Aside0.mk (Kd.C_at hq_ HR248.out); clear HR248; have HR248 := nx_; clear nx_)); clear HO_4 HO_5 HO_7 BK239 HB HR264 hq_; have HO_4 := n0_; have HO_5 := n1_; have HO_7 := n2_; have BK239 := n3_; have HB := n4_; have HR264 := n5_; clear n0_ n1_ n2_ n3_ n4_ n5_))
                                      have n0_ := Aside0.mk (Kd.R_drew HO_4.out)
                                      have n1_ := Aside0.mk (Kd.R_drew HO_5.out)
                                      have n2_ := Aside0.mk (Kd.R_drew HO_7.out)
                                      have n3_ := Aside0.mk (blk_drew BK239.out)
                                      have n4_ := Aside0.mk (Kd.C_drew HR248.out)
                                      have n5_ := Aside0.mk (Kd.C_drew HR264.out)
                                      have n6_ := Aside0.mk (below_drew1 HB.out)
                                      clear HO_4
                                      clear HO_5
                                      clear HO_7
                                      clear BK239
                                      clear HR248
                                      clear HR264
                                      clear HB
                                      have HO_4 := n0_
                                      have HO_5 := n1_
                                      have HO_7 := n2_
                                      have BK239 := n3_
                                      have HR248 := n4_
                                      have HR264 := n5_
                                      have HB := n6_
                                      clear n0_ n1_ n2_ n3_ n4_ n5_ n6_
                                      refine start_ (n := 26) (S := fun w' => True) (ds := []) #[false, false, false, false, false, false, false, false, false, false, false, false, false, false, false, false, false, false, false, false, false, false, false, false, false, false] (by kernel_rfl) rfl rfl trivial (fun hHeld => ?_); refine with_tabW phaetontop_TopBare.tab12 phaetontop_TopBare.bits12 (fun HT_ HW_ => ?_)
                                      generalize wc.drew = w57 at HO_4 HO_5 HO_7 BK239 HR248 HR264 HB hHeld ⊢
                                      refine pure_ (i := 0) (N := some 64) (v := ?_) (a' := ?_) #[true, false, false, false, false, false, false, false, false, false, false, false, false, false, false, false, false, false, false, false, false, false, false, false, false, false] rfl rfl (any_of HT_.out (by kernel_rfl)) (fun _ _ _ h => h) (Or.inl ⟨by rfl, ?_⟩) ?_ ?_
                                      rotate_left
                                      · intro w'
                                        go_simp
                                        with_reducible rfl
                                      rotate_left
                                      · simp only [Act.put, List.setIfInBounds_toArray, List.set_cons_zero, List.set_cons_succ, i64_w, i32_w]
                                        rfl
                                      refine pure_ (i := 1) (N := some 65) (v := ?_) (a' := ?_) #[true, true, false, false, false, false, false, false, false, false, false, false, false, false, false, false, false, false, false, false, false, false, false, false, false, false] rfl rfl (any_of HT_.out (by kernel_rfl)) (fun _ _ _ h => h) (Or.inl ⟨by rfl, ?_⟩) ?_ ?_
                                      rotate_left
                                      · intro w'
                                        go_simp
                                        with_reducible rfl
                                      rotate_left
                                      · simp only [Act.put, List.setIfInBounds_toArray, List.set_cons_zero, List.set_cons_succ, i64_w, i32_w]
                                        rfl
                                      refine pure_ (i := 2) (N := some 66) (v := ?_) (a' := ?_) #[true, true, true, false, false, false, false, false, false, false, false, false, false, false, false, false, false, false, false, false, false, false, false, false, false, false] rfl rfl (any_of HT_.out (by kernel_rfl)) (fun _ _ _ h => h) (Or.inl ⟨by rfl, ?_⟩) ?_ ?_
                                      rotate_left
                                      · intro w'
                                        go_simp
                                        with_reducible rfl
                                      rotate_left
                                      · simp only [Act.put, List.setIfInBounds_toArray, List.set_cons_zero, List.set_cons_succ, i64_w, i32_w]
                                        rfl
                                      refine pure_ (i := 3) (N := some 67) (v := ?_) (a' := ?_) #[true, true, true, true, false, false, false, false, false, false, false, false, false, false, false, false, false, false, false, false, false, false, false, false, false, false] rfl rfl (any_of HT_.out (by kernel_rfl)) (fun _ _ _ h => h) (Or.inl ⟨by rfl, ?_⟩) ?_ ?_
                                      rotate_left
                                      · intro w'
                                        go_simp
                                        with_reducible rfl
                                      rotate_left
                                      · simp only [Act.put, List.setIfInBounds_toArray, List.set_cons_zero, List.set_cons_succ, i64_w, i32_w]
                                        rfl
                                      refine pure_ (i := 4) (N := some 68) (v := ?_) (a' := ?_) #[true, true, true, true, true, false, false, false, false, false, false, false, false, false, false, false, false, false, false, false, false, false, false, false, false, false] rfl rfl (any_of HT_.out (by kernel_rfl)) (fun _ _ _ h => h) (Or.inl ⟨by rfl, ?_⟩) ?_ ?_
                                      rotate_left
                                      · intro w'
                                        go_simp
                                        with_reducible rfl
                                      rotate_left
                                      · simp only [Act.put, List.setIfInBounds_toArray, List.set_cons_zero, List.set_cons_succ, i64_w, i32_w]
                                        rfl
                                      refine pure_ (i := 5) (N := some 69) (v := ?_) (a' := ?_) #[true, true, true, true, true, true, false, false, false, false, false, false, false, false, false, false, false, false, false, false, false, false, false, false, false, false] rfl rfl (any_of HT_.out (by kernel_rfl)) (fun _ _ _ h => h) (Or.inl ⟨by rfl, ?_⟩) ?_ ?_
                                      rotate_left
                                      · intro w'
                                        go_simp
                                        with_reducible rfl
                                      rotate_left
                                      · simp only [Act.put, List.setIfInBounds_toArray, List.set_cons_zero, List.set_cons_succ, i64_w, i32_w]
                                        rfl
                                      refine pure_ (i := 6) (N := some 70) (v := ?_) (a' := ?_) #[true, true, true, true, true, true, true, false, false, false, false, false, false, false, false, false, false, false, false, false, false, false, false, false, false, false] rfl rfl (any_of HT_.out (by kernel_rfl)) (fun _ _ _ h => h) (Or.inl ⟨by rfl, ?_⟩) ?_ ?_
                                      rotate_left
                                      · intro w'
                                        go_simp
                                        with_reducible rfl
                                      rotate_left
                                      · simp only [Act.put, List.setIfInBounds_toArray, List.set_cons_zero, List.set_cons_succ, i64_w, i32_w]
                                        rfl
                                      refine one_ (i := 7) (N := some 71) #[true, true, true, true, true, true, true, true, false, false, false, false, false, false, false, false, false, false, false, false, false, false, false, false, false, false] rfl rfl (one_of HT_.out (by kernel_rfl)) (by decide) (fun K hK => ?_)
                                      refine goes_ Try.func19 (by kernel_rfl) rfl #[.slice Ao54 t253.length co54] (by rfl) rfl rfl (by (try simp only [List.map_toArray, List.map_cons, List.map_nil]); first | done | rfl | (simp only [List.length_drop, List.length_take]; rfl) | (simp [Act.eval]; first | (rw [KY24.out, KY35.out, ← hji15, ← hji49]; done) | (rw [KY24.out, KY55.out, ← hji15, ← hji49]; done) | (rw [KY24.out, KY61.out, ← hji15, ← hji49]; done) | (rw [KY35.out, KY24.out, ← hji15, ← hji49]; done) | (rw [KY35.out, KY55.out, ← hji15, ← hji49]; done) | (rw [KY35.out, KY61.out, ← hji15, ← hji49]; done) | (rw [KY55.out, KY24.out, ← hji15, ← hji49]; done) | (rw [KY55.out, KY35.out, ← hji15, ← hji49]; done) | (rw [KY55.out, KY61.out, ← hji15, ← hji49]; done) | (rw [KY61.out, KY24.out, ← hji15, ← hji49]; done) | (rw [KY61.out, KY35.out, ← hji15, ← hji49]; done) | (rw [KY61.out, KY55.out, ← hji15, ← hji49]; done))) ?_
                                      with_reducible refine (crc_Bits.calls _ _ t253 t267 _ ?side1 ?side2 A44.out).mono ?_
                                      (case side1 => repeat (first | exact (Kd.R_reads' HO_7.out).2.2 | (with_reducible refine Kd.C_alloc ?_ _) | (with_reducible refine Kd.C_drewN ?_ _) | (with_reducible refine Kd.C_drew ?_)))
                                      (case side2 => exact (Kd.R_reads' HO_7.out).2.1)
                                      rintro e w58 ⟨rfl, hb⟩
                                      refine ⟨_, rfl, ?_⟩
                                      have n0_ := Aside0.mk (Kd.R_below (by (with_reducible repeat (first | apply Kd.R_alloc | apply Kd.R_drewN | apply Kd.R_drew)); exact HO_4.out) hb)
                                      have n1_ := Aside0.mk (Kd.R_below (by (with_reducible repeat (first | apply Kd.R_alloc | apply Kd.R_drewN | apply Kd.R_drew)); exact HO_5.out) hb)
                                      have n2_ := Aside0.mk (Kd.R_below (by (with_reducible repeat (first | apply Kd.R_alloc | apply Kd.R_drewN | apply Kd.R_drew)); exact HO_7.out) hb)
                                      have n3_ := Aside0.mk (blk_below (g := gb239) (o := .cells #[.bool a0_0, .int .i64 a0_1, .bool a0_2, .int .i64 a0_3, .slice A0_4 l0_4.length c0_4] 26 (0, 0)) (by (with_reducible repeat (first | refine blk_drewN ?_ _ | refine blk_drew ?_ | refine blk_alloc ?_ _)); exact BK239.out) hb)
                                      have n4_ := Aside0.mk (Kd.C_below (by repeat (first | (with_reducible exact HR248.out) | (with_reducible refine Kd.C_alloc ?_ _) | (with_reducible refine Kd.C_drewN ?_ _) | (with_reducible refine Kd.C_drew ?_) | exact HR248.out)) hb)
                                      have n5_ := Aside0.mk (Kd.C_below (by repeat (first | (with_reducible exact HR264.out) | (with_reducible refine Kd.C_alloc ?_ _) | (with_reducible refine Kd.C_drewN ?_ _) | (with_reducible refine Kd.C_drew ?_) | exact HR264.out)) hb)
                                      have n6_ := Aside0.mk (below_step (by repeat (first | (with_reducible first | exact HB.out | apply below_alloc | apply pw_below_drewN | apply below_drew1 | refine below_set ?_ GE239.out) | exact HB.out)) hb)
                                      clear HO_4
                                      clear HO_5
                                      clear HO_7
                                      clear BK239
                                      clear HR248
                                      clear HR264
                                      clear HB
                                      have HO_4 := n0_
                                      have HO_5 := n1_
                                      have HO_7 := n2_
                                      have BK239 := n3_
                                      have HR248 := n4_
                                      have HR264 := n5_
                                      have HB := n6_
                                      clear n0_ n1_ n2_ n3_ n4_ n5_ n6_
                                      (try clear hb)
                                      (try clear hb2)
                                      (try clear hk)
                                      (try clear hi)
                                      refine hK.out _ _ trivial (fun hHeld => ?_)
                                      clear hK K
                                      refine norm_ (a' := ?_) ?_ ?_
                                      rotate_left
                                      · show Act.put _ (some 71) _ = _
                                        simp only [Act.put, List.setIfInBounds_toArray, List.set_cons_zero, List.set_cons_succ, i64_w, i32_w]
                                        rfl
                                      refine pure_ (i := 8) (N := some 72) (v := ?_) (a' := ?_) #[true, true, true, true, true, true, true, true, true, false, false, false, false, false, false, false, false, false, false, false, false, false, false, false, false, false] rfl rfl (any_of HT_.out (by kernel_rfl)) (fun _ _ _ h => h) (Or.inl ⟨by rfl, ?_⟩) ?_ ?_
                                      rotate_left
                                      · intro w'
                                        go_simp
                                        with_reducible rfl
                                      rotate_left
                                      · simp only [Act.put, List.setIfInBounds_toArray, List.set_cons_zero, List.set_cons_succ, i64_w, i32_w]
                                        rfl
                                      refine pure_ (i := 9) (N := some 73) (v := ?_) (a' := ?_) #[true, true, true, true, true, true, true, true, true, true, false, false, false, false, false, false, false, false, false, false, false, false, false, false, false, false] rfl rfl (any_of HT_.out (by kernel_rfl)) (fun _ _ _ h => h) (Or.inl ⟨by rfl, ?_⟩) ?_ ?_
                                      rotate_left
                                      · intro w'
                                        go_simp
                                        with_reducible rfl
                                      rotate_left
                                      · simp only [Act.put, List.setIfInBounds_toArray, List.set_cons_zero, List.set_cons_succ, i64_w, i32_w]
                                        rfl
                                      refine pure_ (i := 10) (N := some 74) (v := ?_) (a' := ?_) #[true, true, true, true, true, true, true, true, true, true, true, false, false, false, false, false, false, false, false, false, false, false, false, false, false, false] rfl rfl (any_of HT_.out (by kernel_rfl)) (fun _ _ _ h => h) (Or.inl ⟨by rfl, ?_⟩) ?_ ?_
                                      rotate_left
                                      · intro w'
                                        go_simp
                                        with_reducible rfl
                                      rotate_left
                                      · simp only [Act.put, List.setIfInBounds_toArray, List.set_cons_zero, List.set_cons_succ, i64_w, i32_w]
                                        rfl
                                      refine pure_ (i := 11) (N := some 75) (v := ?_) (a' := ?_) #[true, true, true, true, true, true, true, true, true, true, true, true, false, false, false, false, false, false, false, false, false, false, false, false, false, false] rfl rfl (any_of HT_.out (by kernel_rfl)) (fun _ _ _ h => h) (Or.inl ⟨by rfl, ?_⟩) ?_ ?_
                                      rotate_left
                                      · intro w'
                                        go_simp
                                        with_reducible rfl
                                      rotate_left
                                      · simp only [Act.put, List.setIfInBounds_toArray, List.set_cons_zero, List.set_cons_succ, i64_w, i32_w]
                                        rfl
                                      refine one_ (i := 12) (N := some 76) #[true, true, true, true, true, true, true, true, true, true, true, true, true, false, false, false, false, false, false, false, false, false, false, false, false, false] rfl rfl (one_of HT_.out (by kernel_rfl)) (by decide) (fun K hK => ?_)
                                      refine goes_ Try.func19 (by kernel_rfl) rfl #[.slice Ao56 t249.length co56] (by rfl) rfl rfl (by (try simp only [List.map_toArray, List.map_cons, List.map_nil]); first | done | rfl | (simp only [List.length_drop, List.length_take]; rfl) | (simp [Act.eval]; first | (rw [KY24.out, KY35.out, ← hji15, ← hji49]; done) | (rw [KY24.out, KY55.out, ← hji15, ← hji49]; done) | (rw [KY24.out, KY61.out, ← hji15, ← hji49]; done) | (rw [KY35.out, KY24.out, ← hji15, ← hji49]; done) | (rw [KY35.out, KY55.out, ← hji15, ← hji49]; done) | (rw [KY35.out, KY61.out, ← hji15, ← hji49]; done) | (rw [KY55.out, KY24.out, ← hji15, ← hji49]; done) | (rw [KY55.out, KY35.out, ← hji15, ← hji49]; done) | (rw [KY55.out, KY61.out, ← hji15, ← hji49]; done) | (rw [KY61.out, KY24.out, ← hji15, ← hji49]; done) | (rw [KY61.out, KY35.out, ← hji15, ← hji49]; done) | (rw [KY61.out, KY55.out, ← hji15, ← hji49]; done))) ?_
                                      with_reducible refine (crc_Bits.calls _ _ t249 t268 _ ?side1 ?side2 A46.out).mono ?_
                                      (case side1 => repeat (first | exact (Kd.R_reads' HO_5.out).2.2 | (with_reducible refine Kd.C_alloc ?_ _) | (with_reducible refine Kd.C_drewN ?_ _) | (with_reducible refine Kd.C_drew ?_)))
                                      (case side2 => exact (Kd.R_reads' HO_5.out).2.1)
                                      rintro e w59 ⟨rfl, hb⟩
                                      refine ⟨_, rfl, ?_⟩
                                      have n0_ := Aside0.mk (Kd.R_below (by (with_reducible repeat (first | apply Kd.R_alloc | apply Kd.R_drewN | apply Kd.R_drew)); exact HO_4.out) hb)
                                      have n1_ := Aside0.mk (Kd.R_below (by (with_reducible repeat (first | apply Kd.R_alloc | apply Kd.R_drewN | apply Kd.R_drew)); exact HO_5.out) hb)
                                      have n2_ := Aside0.mk (Kd.R_below (by (with_reducible repeat (first | apply Kd.R_alloc | apply Kd.R_drewN | apply Kd.R_drew)); exact HO_7.out) hb)
                                      have n3_ := Aside0.mk (blk_below (g := gb239) (o := .cells #[.bool a0_0, .int .i64 a0_1, .bool a0_2, .int .i64 a0_3, .slice A0_4 l0_4.length c0_4] 26 (0, 0)) (by (with_reducible repeat (first | refine blk_drewN ?_ _ | refine blk_drew ?_ | refine blk_alloc ?_ _)); exact BK239.out) hb)
                                      have n4_ := Aside0.mk (Kd.C_below (by repeat (first | (with_reducible exact HR248.out) | (with_reducible refine Kd.C_alloc ?_ _) | (with_reducible refine Kd.C_drewN ?_ _) | (with_reducible refine Kd.C_drew ?_) | exact HR248.out)) hb)
                                      have n5_ := Aside0.mk (Kd.C_below (by repeat (first | (with_reducible exact HR264.out) | (with_reducible refine Kd.C_alloc ?_ _) | (with_reducible refine Kd.C_drewN ?_ _) | (with_reducible refine Kd.C_drew ?_) | exact HR264.out)) hb)
                                      have n6_ := Aside0.mk (below_step (by repeat (first | (with_reducible first | exact HB.out | apply below_alloc | apply pw_below_drewN | apply below_drew1 | refine below_set ?_ GE239.out) | exact HB.out)) hb)
                                      clear HO_4
                                      clear HO_5
                                      clear HO_7
                                      clear BK239
                                      clear HR248
                                      clear HR264
                                      clear HB
                                      have HO_4 := n0_
                                      have HO_5 := n1_
                                      have HO_7 := n2_
                                      have BK239 := n3_
                                      have HR248 := n4_
                                      have HR264 := n5_
                                      have HB := n6_
                                      clear n0_ n1_ n2_ n3_ n4_ n5_ n6_
                                      (try clear hb)
                                      (try clear hb2)
                                      (try clear hk)
                                      (try clear hi)
                                      refine hK.out _ _ trivial (fun hHeld => ?_)
                                      clear hK K
                                      refine norm_ (a' := ?_) ?_ ?_
                                      rotate_left
                                      · show Act.put _ (some 76) _ = _
                                        simp only [Act.put, List.setIfInBounds_toArray, List.set_cons_zero, List.set_cons_succ, i64_w, i32_w]
                                        rfl
                                      refine pure_ (i := 13) (N := some 77) (v := ?_) (a' := ?_) #[true, true, true, true, true, true, true, true, true, true, true, true, true, true, false, false, false, false, false, false, false, false, false, false, false, false] rfl rfl (any_of HT_.out (by kernel_rfl)) (fun _ _ _ h => h) (Or.inl ⟨by rfl, ?_⟩) ?_ ?_
                                      rotate_left
                                      · intro w'
                                        go_simp
                                        with_reducible rfl
                                      rotate_left
                                      · simp only [Act.put, List.setIfInBounds_toArray, List.set_cons_zero, List.set_cons_succ, i64_w, i32_w]
                                        rfl
                                      refine pure_ (i := 14) (N := some 78) (v := ?_) (a' := ?_) #[true, true, true, true, true, true, true, true, true, true, true, true, true, true, true, false, false, false, false, false, false, false, false, false, false, false] rfl rfl (any_of HT_.out (by kernel_rfl)) (fun _ _ _ h => h) (Or.inl ⟨by rfl, ?_⟩) ?_ ?_
                                      rotate_left
                                      · intro w'
                                        go_simp
                                        with_reducible rfl
                                      rotate_left
                                      · simp only [Act.put, List.setIfInBounds_toArray, List.set_cons_zero, List.set_cons_succ, i64_w, i32_w]
                                        rfl
                                      refine pure_ (i := 15) (N := some 79) (v := ?_) (a' := ?_) #[true, true, true, true, true, true, true, true, true, true, true, true, true, true, true, true, false, false, false, false, false, false, false, false, false, false] rfl rfl (any_of HT_.out (by kernel_rfl)) (fun _ _ _ h => h) (Or.inl ⟨by rfl, ?_⟩) ?_ ?_
                                      rotate_left
                                      · intro w'
                                        go_simp
                                        with_reducible rfl
                                      rotate_left
                                      · simp only [Act.put, List.setIfInBounds_toArray, List.set_cons_zero, List.set_cons_succ, i64_w, i32_w]
                                        rfl
                                      refine pure_ (i := 16) (N := some 80) (v := ?_) (a' := ?_) #[true, true, true, true, true, true, true, true, true, true, true, true, true, true, true, true, true, false, false, false, false, false, false, false, false, false] rfl rfl (any_of HT_.out (by kernel_rfl)) (fun _ _ _ h => h) (Or.inl ⟨by rfl, ?_⟩) ?_ ?_
                                      rotate_left
                                      · intro w'
                                        go_simp
                                        with_reducible rfl
                                      rotate_left
                                      · simp only [Act.put, List.setIfInBounds_toArray, List.set_cons_zero, List.set_cons_succ, i64_w, i32_w]
                                        rfl
                                      refine pure_ (i := 18) (N := some 82) (v := ?_) (a' := ?_) #[true, true, true, true, true, true, true, true, true, true, true, true, true, true, true, true, true, false, true, false, false, false, false, false, false, false] rfl rfl (any_of HT_.out (by kernel_rfl)) (fun _ _ _ h => h) (Or.inl ⟨by rfl, ?_⟩) ?_ ?_
                                      rotate_left
                                      · intro w'
                                        go_simp
                                        with_reducible rfl
                                      rotate_left
                                      · simp only [Act.put, List.setIfInBounds_toArray, List.set_cons_zero, List.set_cons_succ, i64_w, i32_w]
                                        rfl
                                      refine pure_ (i := 19) (N := some 83) (v := ?_) (a' := ?_) #[true, true, true, true, true, true, true, true, true, true, true, true, true, true, true, true, true, false, true, true, false, false, false, false, false, false] rfl rfl (any_of HT_.out (by kernel_rfl)) (fun _ _ _ h => h) (Or.inl ⟨by rfl, ?_⟩) ?_ ?_
                                      rotate_left
                                      · intro w'
                                        go_simp
                                        with_reducible rfl
                                      rotate_left
                                      · simp only [Act.put, List.setIfInBounds_toArray, List.set_cons_zero, List.set_cons_succ, i64_w, i32_w]
                                        rfl
                                      refine pure_ (i := 20) (N := some 84) (v := ?_) (a' := ?_) #[true, true, true, true, true, true, true, true, true, true, true, true, true, true, true, true, true, false, true, true, true, false, false, false, false, false] rfl rfl (any_of HT_.out (by kernel_rfl)) (fun _ _ _ h => h) (Or.inl ⟨by rfl, ?_⟩) ?_ ?_
                                      rotate_left
                                      · intro w'
                                        go_simp
                                        with_reducible rfl
                                      rotate_left
                                      · simp only [Act.put, List.setIfInBounds_toArray, List.set_cons_zero, List.set_cons_succ, i64_w, i32_w]
                                        rfl
                                      refine pure_ (i := 21) (N := some 85) (v := ?_) (a' := ?_) #[true, true, true, true, true, true, true, true, true, true, true, true, true, true, true, true, true, false, true, true, true, true, false, false, false, false] rfl rfl (any_of HT_.out (by kernel_rfl)) (fun _ _ _ h => h) (Or.inl ⟨by rfl, ?_⟩) ?_ ?_
                                      rotate_left
                                      · intro w'
                                        go_simp
                                        with_reducible rfl
                                      rotate_left
                                      · simp only [Act.put, List.setIfInBounds_toArray, List.set_cons_zero, List.set_cons_succ, i64_w, i32_w]
                                        rfl
                                      refine pure_ (i := 22) (N := some 86) (v := ?_) (a' := ?_) #[true, true, true, true, true, true, true, true, true, true, true, true, true, true, true, true, true, false, true, true, true, true, true, false, false, false] rfl rfl (any_of HT_.out (by kernel_rfl)) (fun _ _ _ h => h) (Or.inl ⟨by rfl, ?_⟩) ?_ ?_
                                      rotate_left
                                      · intro w'
                                        go_simp
                                        with_reducible rfl
                                      rotate_left
                                      · simp only [Act.put, List.setIfInBounds_toArray, List.set_cons_zero, List.set_cons_succ, i64_w, i32_w]
                                        rfl
                                      refine one_ (i := 17) (N := some 81) #[true, true, true, true, true, true, true, true, true, true, true, true, true, true, true, true, true, true, true, true, true, true, true, false, false, false] rfl rfl (one_of HT_.out (by kernel_rfl)) (by decide) (fun K hK => ?_)
                                      refine goes_ Try.func20 (by kernel_rfl) rfl #[.slice Ao56 t249.length co56] (by rfl) rfl rfl (by (try simp only [List.map_toArray, List.map_cons, List.map_nil]); first | done | rfl | (simp only [List.length_drop, List.length_take]; rfl) | (simp [Act.eval]; first | (rw [KY24.out, KY35.out, ← hji15, ← hji49]; done) | (rw [KY24.out, KY55.out, ← hji15, ← hji49]; done) | (rw [KY24.out, KY61.out, ← hji15, ← hji49]; done) | (rw [KY35.out, KY24.out, ← hji15, ← hji49]; done) | (rw [KY35.out, KY55.out, ← hji15, ← hji49]; done) | (rw [KY35.out, KY61.out, ← hji15, ← hji49]; done) | (rw [KY55.out, KY24.out, ← hji15, ← hji49]; done) | (rw [KY55.out, KY35.out, ← hji15, ← hji49]; done) | (rw [KY55.out, KY61.out, ← hji15, ← hji49]; done) | (rw [KY61.out, KY24.out, ← hji15, ← hji49]; done) | (rw [KY61.out, KY35.out, ← hji15, ← hji49]; done) | (rw [KY61.out, KY55.out, ← hji15, ← hji49]; done))) ?_
                                      with_reducible refine (stuff_Stuff.calls _ _ t249 t269 _ ?side1 ?side2 A48.out).mono ?_
                                      (case side1 => repeat (first | exact (Kd.R_reads' HO_5.out).2.2 | (with_reducible refine Kd.C_alloc ?_ _) | (with_reducible refine Kd.C_drewN ?_ _) | (with_reducible refine Kd.C_drew ?_)))
                                      (case side2 => exact (Kd.R_reads' HO_5.out).2.1)
                                      rintro e w60 ⟨v270, rfl, ho0, hb⟩
                                      refine ⟨_, rfl, ?_⟩
                                      have n0_ := Aside0.mk (Kd.R_elder' (by (with_reducible repeat (first | apply Kd.R_alloc | apply Kd.R_drewN | apply Kd.R_drew)); exact HO_4.out) (Kd.R_base ho0) hb)
                                      have n1_ := Aside0.mk (Kd.R_elder' (by (with_reducible repeat (first | apply Kd.R_alloc | apply Kd.R_drewN | apply Kd.R_drew)); exact HO_5.out) (Kd.R_base ho0) hb)
                                      have n2_ := Aside0.mk (Kd.R_elder' (by (with_reducible repeat (first | apply Kd.R_alloc | apply Kd.R_drewN | apply Kd.R_drew)); exact HO_7.out) (Kd.R_base ho0) hb)
                                      have n3_ := Aside0.mk (Kd.R_lower (Kd.R_new' (Kd.R_new' (Kd.R_new' ho0 (Kd.R_lt (by (with_reducible repeat (first | apply Kd.R_alloc | apply Kd.R_drewN | apply Kd.R_drew)); exact HO_4.out))) (Kd.R_lt (by (with_reducible repeat (first | apply Kd.R_alloc | apply Kd.R_drewN | apply Kd.R_drew)); exact HO_5.out))) (Kd.R_lt (by (with_reducible repeat (first | apply Kd.R_alloc | apply Kd.R_drewN | apply Kd.R_drew)); exact HO_7.out))) (below_size (by repeat (first | (with_reducible first | exact HB.out | apply below_alloc | apply pw_below_drewN | apply below_drew1 | refine below_set ?_ GE239.out) | exact HB.out))))
                                      have n4_ := Aside0.mk (blk_below (g := gb239) (o := .cells #[.bool a0_0, .int .i64 a0_1, .bool a0_2, .int .i64 a0_3, .slice A0_4 l0_4.length c0_4] 26 (0, 0)) (by (with_reducible repeat (first | refine blk_drewN ?_ _ | refine blk_drew ?_ | refine blk_alloc ?_ _)); exact BK239.out) hb)
                                      have n5_ := Aside0.mk (Kd.C_below (by repeat (first | (with_reducible exact HR248.out) | (with_reducible refine Kd.C_alloc ?_ _) | (with_reducible refine Kd.C_drewN ?_ _) | (with_reducible refine Kd.C_drew ?_) | exact HR248.out)) hb)
                                      have n6_ := Aside0.mk (Kd.C_below (by repeat (first | (with_reducible exact HR264.out) | (with_reducible refine Kd.C_alloc ?_ _) | (with_reducible refine Kd.C_drewN ?_ _) | (with_reducible refine Kd.C_drew ?_) | exact HR264.out)) hb)
                                      have n7_ := Aside0.mk (below_step (by repeat (first | (with_reducible first | exact HB.out | apply below_alloc | apply pw_below_drewN | apply below_drew1 | refine below_set ?_ GE239.out) | exact HB.out)) hb)
                                      clear HO_4
                                      clear HO_5
                                      clear HO_7
                                      clear BK239
                                      clear HR248
                                      clear HR264
                                      clear HB
                                      have HO_4 := n0_
                                      have HO_5 := n1_
                                      have HO_7 := n2_
                                      have HO271 := n3_
                                      have BK239 := n4_
                                      have HR248 := n5_
                                      have HR264 := n6_
                                      have HB := n7_
                                      clear n0_ n1_ n2_ n3_ n4_ n5_ n6_ n7_
                                      (try clear hb)
                                      (try clear hb2)
                                      (try clear hk)
                                      (try clear hi)
                                      (try clear ho0)
                                      have q61 : ((ji49) : Int) ≤ ((t242.length : Int) : Int) := of_decide_eq_true (by first | (with_reducible assumption) | assumption)
                                      obtain ⟨i061, hi061, _, hsz61, _⟩ := info_parts info3
                                      have hroom61 : t242.length ≤ co23 := (Kd.R_reads' HO_4.out).2.1
                                      have hC61 : Kd.C (Kd.int .i64) _ Ao23 t242.length t242 := (Kd.R_reads' HO_4.out).2.2
                                      (try clear hcut24); have hcut61 := cut_to (P := Try.prog) 30 3 .i64 Try.underlying30 hi061 Ao23 t242.length co23 (ji49) (of_decide_eq_true (by first | (with_reducible assumption) | assumption)) q61 hroom61
                                      have hr61 := Kd.C_take (m := ((ji49) : Int).toNat) hC61 (by omega)
                                      have hy61 : y272.length = ((ji49) : Int).toNat := (by rw [Ny272.out, List.length_take]; omega)
                                      rw [← Ny272.out] at hr61
                                      rw [← hy61] at hcut61
                                      have HR275 := Aside0.mk hr61
                                      have HC275 := Aside0.mk (show y272.length ≤ co23 from by omega)
                                      clear hr61 hC61 hroom61 hi061 hsz61
                                      have KY61 := Aside0.mk hy61
                                      clear hy61
                                      have KL61 := Aside0.mk (show ((ji49) : Int).toNat ≤ t242.length from by omega)
                                      replace q61 := eq_true q61
                                      obtain ⟨Ao62, co62, eo62⟩ := Kd.R_slice HO271.out
                                      (first | subst eo62 | (injection eo62 with f1_ f2_ f3_; have f4_ := f1_.symm; have f5_ := f3_.symm; clear f1_ f2_ f3_; subst f4_; subst f5_))
                                      refine hK.out _ _ trivial (fun hHeld => ?_)
                                      clear hK K
                                      refine norm_ (a' := ?_) ?_ ?_
                                      rotate_left
                                      · show Act.put _ (some 81) _ = _
                                        simp only [Act.put, List.setIfInBounds_toArray, List.set_cons_zero, List.set_cons_succ, i64_w, i32_w]
                                        rfl
                                      refine one_ (i := 23) (N := some 87) #[true, true, true, true, true, true, true, true, true, true, true, true, true, true, true, true, true, true, true, true, true, true, true, true, false, false] rfl rfl (one_of HT_.out (by kernel_rfl)) (by decide) (fun K hK => ?_)
                                      refine goes_ Try.func9 (by kernel_rfl) rfl #[.slice Ao62 t269.length co62, .slice Ao23 y272.length co23] (by rfl) rfl rfl (by (try simp only [List.map_toArray, List.map_cons, List.map_nil]); first | done | rfl | (simp only [List.length_drop, List.length_take]; rfl) | (simp [Act.eval]; first | (rw [KY24.out, KY35.out, ← hji15, ← hji49]; done) | (rw [KY24.out, KY55.out, ← hji15, ← hji49]; done) | (rw [KY24.out, KY61.out, ← hji15, ← hji49]; done) | (rw [KY35.out, KY24.out, ← hji15, ← hji49]; done) | (rw [KY35.out, KY55.out, ← hji15, ← hji49]; done) | (rw [KY35.out, KY61.out, ← hji15, ← hji49]; done) | (rw [KY55.out, KY24.out, ← hji15, ← hji49]; done) | (rw [KY55.out, KY35.out, ← hji15, ← hji49]; done) | (rw [KY55.out, KY61.out, ← hji15, ← hji49]; done) | (rw [KY61.out, KY24.out, ← hji15, ← hji49]; done) | (rw [KY61.out, KY35.out, ← hji15, ← hji49]; done) | (rw [KY61.out, KY55.out, ← hji15, ← hji49]; done))) ?_
                                      with_reducible refine (phaetonref01_Same.calls kj19 _ _ t269 _ _ y272 true _ ?side1 ?side2 ?side3 ?side4 A52.out).mono ?_
                                      (case side1 => repeat (first | exact (Kd.R_reads' HO271.out).2.2 | (with_reducible refine Kd.C_alloc ?_ _) | (with_reducible refine Kd.C_drewN ?_ _) | (with_reducible refine Kd.C_drew ?_)))
                                      (case side2 => exact (Kd.R_reads' HO271.out).2.1)
                                      (case side3 => repeat (first | exact (by repeat (first | (with_reducible exact HR275.out) | (with_reducible refine Kd.C_alloc ?_ _) | (with_reducible refine Kd.C_drewN ?_ _) | (with_reducible refine Kd.C_drew ?_) | exact HR275.out)) | (with_reducible refine Kd.C_alloc ?_ _) | (with_reducible refine Kd.C_drewN ?_ _) | (with_reducible refine Kd.C_drew ?_)))
                                      (case side4 => exact HC275.out)
                                      rintro e w' ⟨rfl, ⟨nd, rfl⟩⟩
                                      refine ⟨_, rfl, ?_⟩
                                      refine hK.out _ _ trivial (fun hHeld => ?_)
                                      clear hK K
                                      refine norm_ (a' := ?_) ?_ ?_
                                      rotate_left
                                      · show Act.put _ (some 87) _ = _
                                        simp only [Act.put, List.setIfInBounds_toArray, List.set_cons_zero, List.set_cons_succ, i64_w, i32_w]
                                        rfl
                                      refine pure_ (i := 24) (N := some 88) (v := ?_) (a' := ?_) #[true, true, true, true, true, true, true, true, true, true, true, true, true, true, true, true, true, true, true, true, true, true, true, true, true, false] rfl rfl (any_of HT_.out (by kernel_rfl)) (fun _ _ _ h => h) (Or.inl ⟨by rfl, ?_⟩) ?_ ?_
                                      rotate_left
                                      · intro w'
                                        go_simp
                                        with_reducible rfl
                                      rotate_left
                                      · simp only [Act.put, List.setIfInBounds_toArray, List.set_cons_zero, List.set_cons_succ, i64_w, i32_w]
                                        rfl
                                      refine pure_ (i := 25) (N := some 2) (v := ?_) (a' := ?_) #[true, true, true, true, true, true, true, true, true, true, true, true, true, true, true, true, true, true, true, true, true, true, true, true, true, true] rfl rfl (any_of HT_.out (by kernel_rfl)) (fun _ _ _ h => h) (Or.inl ⟨by rfl, ?_⟩) ?_ ?_
                                      rotate_left
                                      · intro w'
                                        go_simp
                                        with_reducible rfl
                                      rotate_left
                                      · simp only [Act.put, List.setIfInBounds_toArray, List.set_cons_zero, List.set_cons_succ, i64_w, i32_w]
                                        rfl
                                      refine done_ (done_of HT_.out (by kernel_rfl)) ?_
                                      try go_wp2
                                      go_ret
                                      exact ⟨by first | rfl | (simp [errW_none, errW_some] <;> rfl) | (simp only [← hji15, ← hji49]; first | rfl | (simp [errW_none, errW_some] <;> rfl)) | (simp [*, errW_none, errW_some] <;> rfl), by repeat (first | (with_reducible first | exact HB.out | apply below_alloc | apply pw_below_drewN | apply below_drew1 | refine below_set ?_ GE239.out) | exact HB.out)⟩
                                    · replace c53 := Bool.eq_false_iff.mpr c53
                                      subst c53
                                      have H1 : (none) = some r := by rw [if_neg (show ¬ (false = true) by decide)] at H; exact H
                                      clear H
                                      have H := H1
                                      clear H1
                                      exact absurd H (by simp)
                                  · rw [if_neg c51] at H
                                    exact absurd H (by simp)
                                · rw [if_neg c50] at H
                                  exact absurd H (by simp)
                              · rw [if_neg c47] at H
                                have c47b0 : (t268 == 0) = false := beq_eq_false_iff_ne.mpr c47
                                have c47b1 : (t268 != 0) = true := bne_iff_ne.mpr c47
                                exact absurd H (by simp)
                            · rw [if_neg c45] at H
                              have c45b0 : (t265 == t267) = false := beq_eq_false_iff_ne.mpr c45
                              have c45b1 : (t265 != t267) = true := bne_iff_ne.mpr c45
                              exact absurd H (by simp)
                          · replace c43 := Bool.eq_false_iff.mpr c43
                            subst c43
                            have H1 : (none) = some r := by rw [if_neg (show ¬ (false = true) by decide)] at H; exact H
                            clear H
                            have H := H1
                            clear H1
                            exact absurd H (by simp)
                        · replace c42 := Bool.eq_false_iff.mpr c42
                          subst c42
                          have H1 : (none) = some r := by rw [if_neg (show ¬ (false = true) by decide)] at H; exact H
                          clear H
                          have H := H1
                          clear H1
                          exact absurd H (by simp)
                      · rw [if_neg c40] at H
                        exact absurd H (by simp)
                    · rw [if_neg c39] at H
                      exact absurd H (by simp)
            · rw [if_neg c17] at H
              exact absurd H (by simp)
          · rw [if_neg c16] at H
            exact absurd H (by simp)

/-- THE ONE PURE STATEMENT of phaetontop_TopBare. -/
def phaetontop_TopBare.Pure : Prop := ∀ (a0_0 : Bool) (a0_1 : Int) (a0_2 : Bool) (a0_3 : Int) (l0_4 : List Int), (Lit.int .i64 a0_1).wf = true → (Lit.int .i64 a0_3).wf = true → l0_4.length ≤ maxLen → (∀ x ∈ l0_4, (fun (x : Int) => (Lit.int .u8 x).wf = true) x) → ∃ k, phaetontop_TopBare.f k a0_0 a0_1 a0_2 a0_3 l0_4 = some true
theorem phaetontop_TopBare.walk (P : phaetontop_TopBare.Pure) (a0_0 : Bool) (a0_1 : Int) (a0_2 : Bool) (a0_3 : Int) (A0_4 : Option Addr) (c0_4 : Nat) (l0_4 : List Int) (w : World) (hw0_1 : (Lit.int .i64 a0_1).wf = true) (hw0_3 : (Lit.int .i64 a0_3).wf = true) (hw0_4 : ∀ x ∈ l0_4, (fun (x : Int) => (Lit.int .u8 x).wf = true) x) (hr0_4 : Kd.C (Kd.int .u8) w A0_4 l0_4.length l0_4) (hc0_4 : l0_4.length ≤ c0_4) :
    Calls Try.prog 5 #[.agg #[.bool a0_0, .int .i64 a0_1, .bool a0_2, .int .i64 a0_3, .slice A0_4 l0_4.length c0_4]] w fun e w' => e = .returned (.bool true) ∧ Below w.heap.size w w' := by
  obtain ⟨k, h⟩ := P a0_0 a0_1 a0_2 a0_3 l0_4 hw0_1 hw0_3 (by have := hr0_4.2.1; unfold maxLen; omega) hw0_4
  refine (phaetontop_TopBare.calls k a0_0 a0_1 a0_2 a0_3 _ _ l0_4 true w hr0_4 hc0_4 h).mono ?_
  rintro e w' ⟨rfl, hd⟩
  exact ⟨rfl, hd⟩

end Go.Proofs.Ytechlakahpkdpaa.Px

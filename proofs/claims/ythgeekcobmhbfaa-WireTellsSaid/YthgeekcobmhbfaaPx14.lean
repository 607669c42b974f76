-- Written by myprint.py, a program of this session's, over the kit's print.py; not a text of print.sh's own.
import Derived.Test.YthgeekcobmhbfaaHandBox
import Derived.Test.YthgeekcobmhbfaaHandFive
import Derived.Test.YthgeekcobmhbfaaPx0
import Derived.Test.YthgeekcobmhbfaaPx1
import Derived.Test.YthgeekcobmhbfaaPx2
import Derived.Test.YthgeekcobmhbfaaPx5
import Derived.Test.YthgeekcobmhbfaaPx9
import Derived.Test.YthgeekcobmhbfaaPx10
import Derived.Test.YthgeekcobmhbfaaPx13
namespace Go.Proofs.Ythgeekcobmhbfaa.Px
open Go.RowKit Go.Proofs.YthgeekcobmhbfaaW.PrintWords Go.Proofs.YthgeekcobmhbfaaW.PrintLast Go.Proofs.YthgeekcobmhbfaaW.PrintMore
attribute [local go_sem] max2_int min2_int max_two min_two max_three min_three max_four min_four   -- for this text's walks alone
set_option linter.unusedVariables false
set_option linter.unusedSimpArgs false

/-! ### phaetonlaw05_WireTells: function 3 -/
mutual
def phaetonlaw05_WireTells.j0 : Nat → List Int → Bool → Int → Bool → Bool → Bool → Int → Bool → Int → List Int → Option (Bool)
 | 0, _, _, _, _, _, _, _, _, _, _ => none
 | k + 1, x1, x2, x3, x9, x26, x355000, x355001, x355002, x355003, x355004 => if x26 = true then (if x9 = true then (some true) else (none)) else ((phaetonref04_Right.f k x355000 x355001 x355002 x355003 x355004).bind fun t357 => (if t357 = true then ((wire_Bits.f x355000 x355001 x355002 x355003 x355004).bind fun t358 => ((phaetonref05_Bits.f k x355000 x355001 x355002 x355003 x355004).bind fun t361 => ((phaetonref01_Same.f k t358 t361).bind fun t364 => (if t364 = true then ((wire_Length.f x355000 x355001 x355002 x355003 x355004).bind fun t365 => ((phaetonref05_Length.f k x355000 x355001 x355002 x355003 x355004).bind fun t366 => (phaetonlaw05_WireTells.j1 k x1 x2 x3 x9 (t365 != t366)))) else (phaetonlaw05_WireTells.j1 k x1 x2 x3 x9 true))))) else (phaetonlaw05_WireTells.j1 k x1 x2 x3 x9 false)))
def phaetonlaw05_WireTells.j1 : Nat → List Int → Bool → Int → Bool → Bool → Option (Bool)
 | 0, _, _, _, _, _ => none
 | k + 1, x1, x2, x3, x9, x44 => if x44 = true then (none) else ((wire_Most.f x2 (Int.tmod (wrap64 (x3)) 9)).bind fun t367 => ((phaetonref05_Most.f x2 (Int.tmod (wrap64 (x3)) 9)).bind fun t368 => (if t367 = t368 then ((phaetonref01_Right.f k x1).bind fun t369 => (if t369 = true then ((wire_Read.f x1).bind fun bt370 => ((wire_Read.f x1).bind fun bt380 => ((phaetonref05_Read.f k x1).bind fun bt390 => (if x9 = true then ((phaetonref04_Same.f bt370.1 bt370.2.1 bt370.2.2.1 bt370.2.2.2.1 bt370.2.2.2.2.1 bt390.1 bt390.2.1 bt390.2.2.1 bt390.2.2.2.1 bt390.2.2.2.2.1).bind fun t400 => (if t400 = true then (if bt370.2.2.2.2.2.1 = bt390.2.2.2.2.2.1 then (if bt370.2.2.2.2.2.2 = bt390.2.2.2.2.2.2 then ((phaetonref04_Same.f bt370.1 bt370.2.1 bt370.2.2.1 bt370.2.2.2.1 bt370.2.2.2.2.1 bt380.1 bt380.2.1 bt380.2.2.1 bt380.2.2.2.1 bt380.2.2.2.2.1).bind fun t401 => (if t401 = true then (if bt370.2.2.2.2.2.1 = bt380.2.2.2.2.2.1 then (if bt370.2.2.2.2.2.2 = bt380.2.2.2.2.2.2 then (some true) else (none)) else (none)) else (none))) else (none)) else (none)) else (none))) else (none))))) else (if x9 = true then (some true) else (none)))) else (none))))
end
def phaetonlaw05_WireTells.f (k : Nat) (a0_0 : Bool) (a0_1 : Int) (a0_2 : Bool) (a0_3 : Int) (l0_4 : List Int) (l1 : List Int) (a2 : Bool) (a3 : Int) : Option (Bool) := (phaetonlaw05_head.f k).bind fun t355 => ((phaetonlaw04_Great.f a0_0 a0_1 a0_2 a0_3 l0_4).bind fun t356 => (if t356 = true then (phaetonlaw05_WireTells.j0 k l1 a2 a3 t355 true a0_0 a0_1 a0_2 a0_3 l0_4) else (phaetonlaw05_WireTells.j0 k l1 a2 a3 t355 (decide ((l1.length : Int) > 400)) a0_0 a0_1 a0_2 a0_3 l0_4)))
theorem phaetonlaw05_WireTells.mono_l : ∀ k, (∀ y0 y1 y2 y3 y4 y5 y6 y7 y8 y9, LeO (phaetonlaw05_WireTells.j0 k y0 y1 y2 y3 y4 y5 y6 y7 y8 y9) (phaetonlaw05_WireTells.j0 (k + 1) y0 y1 y2 y3 y4 y5 y6 y7 y8 y9)) ∧ (∀ y0 y1 y2 y3 y4, LeO (phaetonlaw05_WireTells.j1 k y0 y1 y2 y3 y4) (phaetonlaw05_WireTells.j1 (k + 1) y0 y1 y2 y3 y4))
 | 0 => ⟨fun _ _ _ _ _ _ _ _ _ _ r h => by simp [phaetonlaw05_WireTells.j0] at h, fun _ _ _ _ _ r h => by simp [phaetonlaw05_WireTells.j1] at h⟩
 | k + 1 => by
  obtain ⟨ih0, ih1⟩ := phaetonlaw05_WireTells.mono_l k
  refine ⟨?_, ?_⟩
  ·intro y0 y1 y2 y3 y4 y5 y6 y7 y8 y9
   unfold phaetonlaw05_WireTells.j0
   repeat' first
   | (with_reducible exact ih0 _ _ _ _ _ _ _ _ _ _)
   | (with_reducible exact ih1 _ _ _ _ _)
   | (with_reducible exact phaetonlaw05_head.mono _)
   | (with_reducible exact phaetonref01_Right.mono _ _)
   | (with_reducible exact phaetonref01_Same.mono _ _ _)
   | (with_reducible exact phaetonref04_Right.mono _ _ _ _ _ _)
   | (with_reducible exact phaetonref05_Bits.mono _ _ _ _ _ _)
   | (with_reducible exact phaetonref05_Length.mono _ _ _ _ _ _)
   | (with_reducible exact phaetonref05_Read.mono _ _)
   | (with_reducible exact LeO.refl _)
   | (with_reducible exact LeO.none _)
   | (with_reducible refine LeO.ite ?_ ?_)
   | (with_reducible refine LeO.bind ?_ (fun _ => ?_))
   | exact ih0 _ _ _ _ _ _ _ _ _ _
   | exact ih1 _ _ _ _ _
   | exact phaetonlaw05_head.mono _
   | exact phaetonref01_Right.mono _ _
   | exact phaetonref01_Same.mono _ _ _
   | exact phaetonref04_Right.mono _ _ _ _ _ _
   | exact phaetonref05_Bits.mono _ _ _ _ _ _
   | exact phaetonref05_Length.mono _ _ _ _ _ _
   | exact phaetonref05_Read.mono _ _
   | exact LeO.none _
   | refine LeO.ite ?_ ?_
   | refine LeO.bind ?_ (fun _ => ?_)
  ·intro y0 y1 y2 y3 y4
   unfold phaetonlaw05_WireTells.j1
   repeat' first
   | (with_reducible exact ih0 _ _ _ _ _ _ _ _ _ _)
   | (with_reducible exact ih1 _ _ _ _ _)
   | (with_reducible exact phaetonlaw05_head.mono _)
   | (with_reducible exact phaetonref01_Right.mono _ _)
   | (with_reducible exact phaetonref01_Same.mono _ _ _)
   | (with_reducible exact phaetonref04_Right.mono _ _ _ _ _ _)
   | (with_reducible exact phaetonref05_Bits.mono _ _ _ _ _ _)
   | (with_reducible exact phaetonref05_Length.mono _ _ _ _ _ _)
   | (with_reducible exact phaetonref05_Read.mono _ _)
   | (with_reducible exact LeO.refl _)
   | (with_reducible exact LeO.none _)
   | (with_reducible refine LeO.ite ?_ ?_)
   | (with_reducible refine LeO.bind ?_ (fun _ => ?_))
   | exact ih0 _ _ _ _ _ _ _ _ _ _
   | exact ih1 _ _ _ _ _
   | exact phaetonlaw05_head.mono _
   | exact phaetonref01_Right.mono _ _
   | exact phaetonref01_Same.mono _ _ _
   | exact phaetonref04_Right.mono _ _ _ _ _ _
   | exact phaetonref05_Bits.mono _ _ _ _ _ _
   | exact phaetonref05_Length.mono _ _ _ _ _ _
   | exact phaetonref05_Read.mono _ _
   | exact LeO.none _
   | refine LeO.ite ?_ ?_
   | refine LeO.bind ?_ (fun _ => ?_)
theorem phaetonlaw05_WireTells.mono : ∀ a0 a1 a2 a3 a4 a5 a6 a7 k, LeO (phaetonlaw05_WireTells.f k a0 a1 a2 a3 a4 a5 a6 a7) (phaetonlaw05_WireTells.f (k + 1) a0 a1 a2 a3 a4 a5 a6 a7) := by
 intro a0 a1 a2 a3 a4 a5 a6 a7 k
 obtain ⟨ih0, ih1⟩ := phaetonlaw05_WireTells.mono_l k
 unfold phaetonlaw05_WireTells.f
 repeat' first
   | (with_reducible exact ih0 _ _ _ _ _ _ _ _ _ _)
   | (with_reducible exact ih1 _ _ _ _ _)
   | (with_reducible exact phaetonlaw05_head.mono _)
   | (with_reducible exact phaetonref01_Right.mono _ _)
   | (with_reducible exact phaetonref01_Same.mono _ _ _)
   | (with_reducible exact phaetonref04_Right.mono _ _ _ _ _ _)
   | (with_reducible exact phaetonref05_Bits.mono _ _ _ _ _ _)
   | (with_reducible exact phaetonref05_Length.mono _ _ _ _ _ _)
   | (with_reducible exact phaetonref05_Read.mono _ _)
   | (with_reducible exact LeO.refl _)
   | (with_reducible exact LeO.none _)
   | (with_reducible refine LeO.ite ?_ ?_)
   | (with_reducible refine LeO.bind ?_ (fun _ => ?_))
   | exact ih0 _ _ _ _ _ _ _ _ _ _
   | exact ih1 _ _ _ _ _
   | exact phaetonlaw05_head.mono _
   | exact phaetonref01_Right.mono _ _
   | exact phaetonref01_Same.mono _ _ _
   | exact phaetonref04_Right.mono _ _ _ _ _ _
   | exact phaetonref05_Bits.mono _ _ _ _ _ _
   | exact phaetonref05_Length.mono _ _ _ _ _ _
   | exact phaetonref05_Read.mono _ _
   | exact LeO.none _
   | refine LeO.ite ?_ ?_
   | refine LeO.bind ?_ (fun _ => ?_)
def phaetonlaw05_WireTells.T4 : Bool × List (List Nat × List Nat) := (true, [([], []), ([0], [0]), ([1, 1], [1]), ([2], [2]), ([3, 2, 2], [2, 3]), ([2], [2]), ([5, 4, 2], [2, 5]), ([4, 6, 6, 2], [2, 4, 6]), ([7, 2], [2, 7]), ([8, 7, 2], [2, 8]), ([9], [9]), ([10, 9, 9], [9, 10]), ([9], [9]), ([12, 11, 9], [9, 12]), ([11, 13, 9], [9, 11, 13]), ([9, 14, 2], [2, 9, 14]), ([2, 15], [2, 15])])
def phaetonlaw05_WireTells.B4 : List Nat := [0, 1, 3, 7, 15, 7, 63, 127, 255, 511, 1023, 2047, 1023, 8191, 16383, 32767, 65535]
theorem phaetonlaw05_WireTells.tab4 : rtab .any (opsOf Try.f3 4) = phaetonlaw05_WireTells.T4 := by kernel_rfl
theorem phaetonlaw05_WireTells.bits4 : waitsOk phaetonlaw05_WireTells.T4.2 phaetonlaw05_WireTells.B4 = true := by kernel_rfl
set_option maxHeartbeats 8000000 in
set_option maxRecDepth 100000 in
theorem phaetonlaw05_WireTells.calls (k : Nat) (a0_0 : Bool) (a0_1 : Int) (a0_2 : Bool) (a0_3 : Int) (A0_4 : Option Addr) (c0_4 : Nat) (l0_4 : List Int) (A1 : Option Addr) (c1 : Nat) (l1 : List Int) (a2 : Bool) (a3 : Int) (r : Bool) (w : World) (hr0_4 : Kd.C (Kd.int .u8) w A0_4 l0_4.length l0_4) (hc0_4 : l0_4.length ≤ c0_4) (hr1 : Kd.C (Kd.int .i64) w A1 l1.length l1) (hc1 : l1.length ≤ c1) (h : phaetonlaw05_WireTells.f k a0_0 a0_1 a0_2 a0_3 l0_4 l1 a2 a3 = some r) :
  Calls Try.prog 3 #[.agg #[.bool a0_0, .int .i64 a0_1, .bool a0_2, .int .i64 a0_3, .slice A0_4 l0_4.length c0_4], .slice A1 l1.length c1, .bool a2, .int .u8 a3] w fun e w' => e = .returned (.bool r) ∧ Below w.heap.size w w' := by
 have hu24 := Try.underlying24
 have HR0_4 := Aside0.mk hr0_4
 have HC0_4 := Aside0.mk hc0_4
 clear hr0_4 hc0_4
 have HR1 := Aside0.mk hr1
 have HC1 := Aside0.mk hc1
 clear hr1 hc1
 have HB := Aside0.mk (Below.refl w.heap.size w)
 have H : ((phaetonlaw05_head.f k).bind fun t355 => ((phaetonlaw04_Great.f a0_0 a0_1 a0_2 a0_3 l0_4).bind fun t356 => (if t356 = true then (phaetonlaw05_WireTells.j0 k l1 a2 a3 t355 true a0_0 a0_1 a0_2 a0_3 l0_4) else (phaetonlaw05_WireTells.j0 k l1 a2 a3 t355 (decide ((l1.length : Int) > 400)) a0_0 a0_1 a0_2 a0_3 l0_4)))) = some r := h
 clear h
 replace H := Option.bind_eq_some_iff.mp H
 obtain ⟨t355, A50, H⟩ := H
 replace H : ((phaetonlaw04_Great.f a0_0 a0_1 a0_2 a0_3 l0_4).bind fun t356 => (if t356 = true then (phaetonlaw05_WireTells.j0 k l1 a2 a3 t355 true a0_0 a0_1 a0_2 a0_3 l0_4) else (phaetonlaw05_WireTells.j0 k l1 a2 a3 t355 (decide ((l1.length : Int) > 400)) a0_0 a0_1 a0_2 a0_3 l0_4))) = some r := H
 have A5 := Aside0.mk A50
 clear A50
 have HC6 := Aside0.mk H
 clear H
 go_enter Try.func3, Try.ntmps3
 (try simp only [List.append])
 go_upto_region 2 with (first | ((with_reducible refine gate_dst (N := 4) rfl ?_); (try (refine gate_guard (by rfl) ?_; dsimp only)); refine box_event ?hg (N := 4) ?hd (cs := #[.bool a0_0, .int .i64 a0_1, .bool a0_2, .int .i64 a0_3, .slice A0_4 l0_4.length c0_4]) (t := 24) ?hr ?_; (case hd => rfl); (case hg => rfl); (case hr => first | (go_simp; done) | (go_simp; rfl)); intro gb354 hg w7 hbox hb; have n0_ := Aside0.mk (below_step (by repeat (first | (with_reducible first | exact HB.out | apply below_alloc | apply pw_below_drewN | apply below_drew1) | exact HB.out)) hb); have n1_ := Aside0.mk (hbox); have n2_ := Aside0.mk ((by rw [hg]; exact (below_size (by repeat (first | (with_reducible first | exact HB.out | apply below_alloc | apply pw_below_drewN | apply below_drew1) | exact HB.out))) : w.heap.size ≤ gb354)); have n3_ := Aside0.mk ((by rw [hg]; exact (below_size (by repeat (first | (with_reducible first | exact HB.out | apply below_alloc | apply pw_below_drewN | apply below_drew1) | exact HB.out))) : w.heap.size ≤ gb354)); clear HB; have HB := n0_; have BK354 := n1_; have GW354 := n2_; have GE354 := n3_; clear n0_ n1_ n2_ n3_; clear hb hbox hg) | ((with_reducible refine gate_callee (f := 10) rfl ?_); refine goesL_ (some 19) rfl rfl Try.func10 (by kernel_rfl) rfl #[] rfl (by (try simp only [List.map_toArray, List.map_cons, List.map_nil]); first | done | rfl | (simp only [List.length_drop, List.length_take]; rfl)) ?_; (with_reducible refine (phaetonlaw05_head.calls k  t355 _ A5.out).mono ?_); rintro e w8 ⟨rfl, hb⟩; refine ⟨_, rfl, ?_⟩; have n0_ := Aside0.mk (blk_below (g := gb354) (o := .cells #[.bool a0_0, .int .i64 a0_1, .bool a0_2, .int .i64 a0_3, .slice A0_4 l0_4.length c0_4] 24 (0, 0)) (by (with_reducible repeat (first | refine blk_drewN ?_ _ | refine blk_drew ?_ | refine blk_alloc ?_ _)); exact BK354.out) hb); have n1_ := Aside0.mk (below_step (by repeat (first | (with_reducible first | exact HB.out | apply below_alloc | apply pw_below_drewN | apply below_drew1 | refine below_set ?_ GE354.out) | exact HB.out)) hb); clear BK354; clear HB; have BK354 := n0_; have HB := n1_; clear n0_ n1_; (try clear hb); (try clear hb2); (try clear hk); (try clear hi)))
 (try simp only [Act.put, List.setIfInBounds_toArray, List.set_cons_zero, List.set_cons_succ])
 go_cut [26] (fun v26 wc => ∃ (kq : Nat) (x26_5 : Bool), v26 = .bool x26_5 ∧ Aside0 (phaetonlaw05_WireTells.j0 kq l1 a2 a3 t355 x26_5 a0_0 a0_1 a0_2 a0_3 l0_4 = some r) ∧ Aside0 (kq ≤ k) ∧ Aside0 (wc.heap[gb354]? = some (.cells #[.bool a0_0, .int .i64 a0_1, .bool a0_2, .int .i64 a0_3, (.slice A0_4 l0_4.length c0_4)] 24 (0, 0))) ∧ Aside0 (Below w.heap.size w wc))
 case first =>
  have H := HC6.out
  clear HC6
  replace H := Option.bind_eq_some_iff.mp H
  obtain ⟨t356, A90, H⟩ := H
  replace H : (if t356 = true then (phaetonlaw05_WireTells.j0 k l1 a2 a3 t355 true a0_0 a0_1 a0_2 a0_3 l0_4) else (phaetonlaw05_WireTells.j0 k l1 a2 a3 t355 (decide ((l1.length : Int) > 400)) a0_0 a0_1 a0_2 a0_3 l0_4)) = some r := H
  have A9 := Aside0.mk A90
  clear A90
  by_cases c10 : t356 = true
  ·subst c10
   have H1 : (phaetonlaw05_WireTells.j0 k l1 a2 a3 t355 true a0_0 a0_1 a0_2 a0_3 l0_4) = some r := by rw [if_pos rfl] at H; exact H
   clear H
   have H := H1
   clear H1
   have H' := Aside0.mk H
   clear H
   have hcz11_0 : w8.cell? ⟨gb354, 0, none⟩ = some (.bool a0_0) := (blk_cell BK354.out 0).trans rfl
   have hcz11_1 : w8.cell? ⟨gb354, 1, none⟩ = some (.int .i64 a0_1) := (blk_cell BK354.out 1).trans rfl
   have hcz11_2 : w8.cell? ⟨gb354, 2, none⟩ = some (.bool a0_2) := (blk_cell BK354.out 2).trans rfl
   have hcz11_3 : w8.cell? ⟨gb354, 3, none⟩ = some (.int .i64 a0_3) := (blk_cell BK354.out 3).trans rfl
   have hcz11_4 : w8.cell? ⟨gb354, 4, none⟩ = some (.slice A0_4 l0_4.length c0_4) := (blk_cell BK354.out 4).trans rfl
   have hfz11_0 := blk_frozen BK354.out 0
   have hfz11_1 := blk_frozen BK354.out 1
   have hfz11_2 := blk_frozen BK354.out 2
   have hfz11_3 := blk_frozen BK354.out 3
   have hfz11_4 := blk_frozen BK354.out 4
   go_wp2_with (first | ((with_reducible refine gate_store (t := 24) (p := 4) rfl ?_); refine HW.store_box5 rfl rfl 24 _ _ rfl rfl rfl BK354.out rfl (by kernel_rfl) rfl rfl rfl rfl rfl ?_; intro w1_ hw1_ hk1_; subst hw1_; have hcb354_0 := (blk_cell hk1_ 0).trans rfl; have hfb354_0 := blk_frozen hk1_ 0; have hcb354_1 := (blk_cell hk1_ 1).trans rfl; have hfb354_1 := blk_frozen hk1_ 1; have hcb354_2 := (blk_cell hk1_ 2).trans rfl; have hfb354_2 := blk_frozen hk1_ 2; have hcb354_3 := (blk_cell hk1_ 3).trans rfl; have hfb354_3 := blk_frozen hk1_ 3; have hcb354_4 := (blk_cell hk1_ 4).trans rfl; have hfb354_4 := blk_frozen hk1_ 4; clear hk1_) | ((with_reducible refine gate_callee (f := 11) rfl ?_); refine goesL_ (some 21) rfl rfl Try.func11 (by kernel_rfl) rfl #[.agg #[.bool a0_0, .int .i64 a0_1, .bool a0_2, .int .i64 a0_3, .slice A0_4 l0_4.length c0_4]] rfl (by (try simp only [List.map_toArray, List.map_cons, List.map_nil]); first | done | rfl | (simp only [List.length_drop, List.length_take]; rfl)) ?_; (with_reducible refine (phaetonlaw04_Great.calls a0_0 a0_1 a0_2 a0_3 _ _ l0_4 true _ ?side1 ?side2 A9.out).mono ?_); (case side1 => repeat (first | exact (Kd.C_below HR0_4.out HB.out) | (with_reducible refine Kd.C_alloc ?_ _) | (with_reducible refine Kd.C_drewN ?_ _) | (with_reducible refine Kd.C_drew ?_))); (case side2 => exact HC0_4.out); rintro e w12 ⟨rfl, hb⟩; refine ⟨_, rfl, ?_⟩; have n0_ := Aside0.mk (blk_below (g := gb354) (o := .cells #[.bool a0_0, .int .i64 a0_1, .bool a0_2, .int .i64 a0_3, .slice A0_4 l0_4.length c0_4] 24 (0, 0)) (by (with_reducible repeat (first | refine blk_drewN ?_ _ | refine blk_drew ?_ | refine blk_alloc ?_ _)); exact BK354.out) hb); have n1_ := Aside0.mk (below_step (by repeat (first | (with_reducible first | exact HB.out | apply below_alloc | apply pw_below_drewN | apply below_drew1 | refine below_set ?_ GE354.out) | exact HB.out)) hb); clear BK354; clear HB; have BK354 := n0_; have HB := n1_; clear n0_ n1_; (try clear hb); (try clear hb2); (try clear hk); (try clear hi)))
   go_meet
   case rel => exact ⟨_, (true), (by first | rfl | (simp; done) | (simp [*]; done)), H', ⟨by first | omega | exact Nat.le_refl _⟩, ⟨by (with_reducible repeat (first | refine blk_drewN ?_ _ | refine blk_drew ?_ | refine blk_alloc ?_ _)); exact BK354.out⟩, ⟨by repeat (first | (with_reducible first | exact HB.out | apply below_alloc | apply pw_below_drewN | apply below_drew1 | refine below_set ?_ GE354.out) | exact HB.out)⟩⟩
  ·replace c10 := Bool.eq_false_iff.mpr c10
   subst c10
   have H1 : (phaetonlaw05_WireTells.j0 k l1 a2 a3 t355 (decide ((l1.length : Int) > 400)) a0_0 a0_1 a0_2 a0_3 l0_4) = some r := by rw [if_neg (show ¬ (false = true) by decide)] at H; exact H
   clear H
   have H := H1
   clear H1
   have H' := Aside0.mk H
   clear H
   have hcz13_0 : w8.cell? ⟨gb354, 0, none⟩ = some (.bool a0_0) := (blk_cell BK354.out 0).trans rfl
   have hcz13_1 : w8.cell? ⟨gb354, 1, none⟩ = some (.int .i64 a0_1) := (blk_cell BK354.out 1).trans rfl
   have hcz13_2 : w8.cell? ⟨gb354, 2, none⟩ = some (.bool a0_2) := (blk_cell BK354.out 2).trans rfl
   have hcz13_3 : w8.cell? ⟨gb354, 3, none⟩ = some (.int .i64 a0_3) := (blk_cell BK354.out 3).trans rfl
   have hcz13_4 : w8.cell? ⟨gb354, 4, none⟩ = some (.slice A0_4 l0_4.length c0_4) := (blk_cell BK354.out 4).trans rfl
   have hfz13_0 := blk_frozen BK354.out 0
   have hfz13_1 := blk_frozen BK354.out 1
   have hfz13_2 := blk_frozen BK354.out 2
   have hfz13_3 := blk_frozen BK354.out 3
   have hfz13_4 := blk_frozen BK354.out 4
   go_wp2_with (first | ((with_reducible refine gate_store (t := 24) (p := 4) rfl ?_); refine HW.store_box5 rfl rfl 24 _ _ rfl rfl rfl BK354.out rfl (by kernel_rfl) rfl rfl rfl rfl rfl ?_; intro w1_ hw1_ hk1_; subst hw1_; have hcb354_0 := (blk_cell hk1_ 0).trans rfl; have hfb354_0 := blk_frozen hk1_ 0; have hcb354_1 := (blk_cell hk1_ 1).trans rfl; have hfb354_1 := blk_frozen hk1_ 1; have hcb354_2 := (blk_cell hk1_ 2).trans rfl; have hfb354_2 := blk_frozen hk1_ 2; have hcb354_3 := (blk_cell hk1_ 3).trans rfl; have hfb354_3 := blk_frozen hk1_ 3; have hcb354_4 := (blk_cell hk1_ 4).trans rfl; have hfb354_4 := blk_frozen hk1_ 4; clear hk1_) | ((with_reducible refine gate_callee (f := 11) rfl ?_); refine goesL_ (some 21) rfl rfl Try.func11 (by kernel_rfl) rfl #[.agg #[.bool a0_0, .int .i64 a0_1, .bool a0_2, .int .i64 a0_3, .slice A0_4 l0_4.length c0_4]] rfl (by (try simp only [List.map_toArray, List.map_cons, List.map_nil]); first | done | rfl | (simp only [List.length_drop, List.length_take]; rfl)) ?_; (with_reducible refine (phaetonlaw04_Great.calls a0_0 a0_1 a0_2 a0_3 _ _ l0_4 false _ ?side1 ?side2 A9.out).mono ?_); (case side1 => repeat (first | exact (Kd.C_below HR0_4.out HB.out) | (with_reducible refine Kd.C_alloc ?_ _) | (with_reducible refine Kd.C_drewN ?_ _) | (with_reducible refine Kd.C_drew ?_))); (case side2 => exact HC0_4.out); rintro e w14 ⟨rfl, hb⟩; refine ⟨_, rfl, ?_⟩; have n0_ := Aside0.mk (blk_below (g := gb354) (o := .cells #[.bool a0_0, .int .i64 a0_1, .bool a0_2, .int .i64 a0_3, .slice A0_4 l0_4.length c0_4] 24 (0, 0)) (by (with_reducible repeat (first | refine blk_drewN ?_ _ | refine blk_drew ?_ | refine blk_alloc ?_ _)); exact BK354.out) hb); have n1_ := Aside0.mk (below_step (by repeat (first | (with_reducible first | exact HB.out | apply below_alloc | apply pw_below_drewN | apply below_drew1 | refine below_set ?_ GE354.out) | exact HB.out)) hb); clear BK354; clear HB; have BK354 := n0_; have HB := n1_; clear n0_ n1_; (try clear hb); (try clear hb2); (try clear hk); (try clear hi)))
   go_meet
   case rel => exact ⟨_, (decide ((l1.length : Int) > 400)), (by first | rfl | (simp; done) | (simp [*]; done)), H', ⟨by first | omega | exact Nat.le_refl _⟩, ⟨by (with_reducible repeat (first | refine blk_drewN ?_ _ | refine blk_drew ?_ | refine blk_alloc ?_ _)); exact BK354.out⟩, ⟨by repeat (first | (with_reducible first | exact HB.out | apply below_alloc | apply pw_below_drewN | apply below_drew1 | refine below_set ?_ GE354.out) | exact HB.out)⟩⟩
 case rest =>
  clear HC6
  try clear c1
  try clear p2
  try clear c3
  try clear c10
  try clear c11
  try clear hcz11_0
  try clear hcz11_1
  try clear hcz11_2
  try clear hcz11_3
  try clear hcz11_4
  try clear hcz13_0
  try clear hcz13_1
  try clear hcz13_2
  try clear hcz13_3
  try clear hcz13_4
  try clear hfz11_0
  try clear hfz11_1
  try clear hfz11_2
  try clear hfz11_3
  try clear hfz11_4
  try clear hfz13_0
  try clear hfz13_1
  try clear hfz13_2
  try clear hfz13_3
  try clear hfz13_4
  obtain ⟨kq, x26_5, rfl, HA, HJ5, BK354, HB⟩ := hcut
  cases kq with
  | zero => exact absurd HA.out (by simp [phaetonlaw05_WireTells.j0])
  | succ kj5 =>
   have H := HA.out
   clear HA
   simp only [phaetonlaw05_WireTells.j0] at H
   by_cases c15 : x26_5 = true
   ·subst c15
    have H1 : (if t355 = true then (some true) else (none)) = some r := by rw [if_pos rfl] at H; exact H
    clear H
    have H := H1
    clear H1
    by_cases c16 : t355 = true
    ·subst c16
     have H1 : (some true) = some r := by rw [if_pos rfl] at H; exact H
     clear H
     have H := H1
     clear H1
     obtain rfl := Option.some.inj H
     go_wp2
     go_ret
     exact ⟨by first | rfl | (simp [errW_none, errW_some] <;> rfl) | (simp [*, errW_none, errW_some] <;> rfl), by repeat (first | (with_reducible first | exact HB.out | apply below_alloc | apply pw_below_drewN | apply below_drew1 | refine below_set ?_ GE354.out) | exact HB.out)⟩
    ·replace c16 := Bool.eq_false_iff.mpr c16
     subst c16
     have H1 : (none) = some r := by rw [if_neg (show ¬ (false = true) by decide)] at H; exact H
     clear H
     have H := H1
     clear H1
     exact absurd H (by simp)
   ·replace c15 := Bool.eq_false_iff.mpr c15
    subst c15
    have H1 : ((phaetonref04_Right.f kj5 a0_0 a0_1 a0_2 a0_3 l0_4).bind fun t357 => (if t357 = true then ((wire_Bits.f a0_0 a0_1 a0_2 a0_3 l0_4).bind fun t358 => ((phaetonref05_Bits.f kj5 a0_0 a0_1 a0_2 a0_3 l0_4).bind fun t361 => ((phaetonref01_Same.f kj5 t358 t361).bind fun t364 => (if t364 = true then ((wire_Length.f a0_0 a0_1 a0_2 a0_3 l0_4).bind fun t365 => ((phaetonref05_Length.f kj5 a0_0 a0_1 a0_2 a0_3 l0_4).bind fun t366 => (phaetonlaw05_WireTells.j1 kj5 l1 a2 a3 t355 (t365 != t366)))) else (phaetonlaw05_WireTells.j1 kj5 l1 a2 a3 t355 true))))) else (phaetonlaw05_WireTells.j1 kj5 l1 a2 a3 t355 false))) = some r := by rw [if_neg (show ¬ (false = true) by decide)] at H; exact H
    clear H
    have H := H1
    clear H1
    have HC17 := Aside0.mk H
    clear H
    go_upto_region 4 with (fail)
    go_cut [44] (fun v44 wc => ∃ (kq : Nat) (x44_16 : Bool), v44 = .bool x44_16 ∧ Aside0 (phaetonlaw05_WireTells.j1 kq l1 a2 a3 t355 x44_16 = some r) ∧ Aside0 (kq ≤ kj5) ∧ Aside0 (wc.heap[gb354]? = some (.cells #[.bool a0_0, .int .i64 a0_1, .bool a0_2, .int .i64 a0_3, (.slice A0_4 l0_4.length c0_4)] 24 (0, 0))) ∧ Aside0 (Below w.heap.size w wc))
    case first =>
     have H := HC17.out
     clear HC17
     replace H := Option.bind_eq_some_iff.mp H
     obtain ⟨t357, A180, H⟩ := H
     replace H : (if t357 = true then ((wire_Bits.f a0_0 a0_1 a0_2 a0_3 l0_4).bind fun t358 => ((phaetonref05_Bits.f kj5 a0_0 a0_1 a0_2 a0_3 l0_4).bind fun t361 => ((phaetonref01_Same.f kj5 t358 t361).bind fun t364 => (if t364 = true then ((wire_Length.f a0_0 a0_1 a0_2 a0_3 l0_4).bind fun t365 => ((phaetonref05_Length.f kj5 a0_0 a0_1 a0_2 a0_3 l0_4).bind fun t366 => (phaetonlaw05_WireTells.j1 kj5 l1 a2 a3 t355 (t365 != t366)))) else (phaetonlaw05_WireTells.j1 kj5 l1 a2 a3 t355 true))))) else (phaetonlaw05_WireTells.j1 kj5 l1 a2 a3 t355 false)) = some r := H
     have A18 := Aside0.mk A180
     clear A180
     by_cases c19 : t357 = true
     ·subst c19
      have H1 : ((wire_Bits.f a0_0 a0_1 a0_2 a0_3 l0_4).bind fun t358 => ((phaetonref05_Bits.f kj5 a0_0 a0_1 a0_2 a0_3 l0_4).bind fun t361 => ((phaetonref01_Same.f kj5 t358 t361).bind fun t364 => (if t364 = true then ((wire_Length.f a0_0 a0_1 a0_2 a0_3 l0_4).bind fun t365 => ((phaetonref05_Length.f kj5 a0_0 a0_1 a0_2 a0_3 l0_4).bind fun t366 => (phaetonlaw05_WireTells.j1 kj5 l1 a2 a3 t355 (t365 != t366)))) else (phaetonlaw05_WireTells.j1 kj5 l1 a2 a3 t355 true))))) = some r := by rw [if_pos rfl] at H; exact H
      clear H
      have H := H1
      clear H1
      replace H := Option.bind_eq_some_iff.mp H
      obtain ⟨t358, A200, H⟩ := H
      replace H : ((phaetonref05_Bits.f kj5 a0_0 a0_1 a0_2 a0_3 l0_4).bind fun t361 => ((phaetonref01_Same.f kj5 t358 t361).bind fun t364 => (if t364 = true then ((wire_Length.f a0_0 a0_1 a0_2 a0_3 l0_4).bind fun t365 => ((phaetonref05_Length.f kj5 a0_0 a0_1 a0_2 a0_3 l0_4).bind fun t366 => (phaetonlaw05_WireTells.j1 kj5 l1 a2 a3 t355 (t365 != t366)))) else (phaetonlaw05_WireTells.j1 kj5 l1 a2 a3 t355 true)))) = some r := H
      have A20 := Aside0.mk A200
      clear A200
      replace H := Option.bind_eq_some_iff.mp H
      obtain ⟨t361, A210, H⟩ := H
      replace H : ((phaetonref01_Same.f kj5 t358 t361).bind fun t364 => (if t364 = true then ((wire_Length.f a0_0 a0_1 a0_2 a0_3 l0_4).bind fun t365 => ((phaetonref05_Length.f kj5 a0_0 a0_1 a0_2 a0_3 l0_4).bind fun t366 => (phaetonlaw05_WireTells.j1 kj5 l1 a2 a3 t355 (t365 != t366)))) else (phaetonlaw05_WireTells.j1 kj5 l1 a2 a3 t355 true))) = some r := H
      have A21 := Aside0.mk A210
      clear A210
      replace H := Option.bind_eq_some_iff.mp H
      obtain ⟨t364, A220, H⟩ := H
      replace H : (if t364 = true then ((wire_Length.f a0_0 a0_1 a0_2 a0_3 l0_4).bind fun t365 => ((phaetonref05_Length.f kj5 a0_0 a0_1 a0_2 a0_3 l0_4).bind fun t366 => (phaetonlaw05_WireTells.j1 kj5 l1 a2 a3 t355 (t365 != t366)))) else (phaetonlaw05_WireTells.j1 kj5 l1 a2 a3 t355 true)) = some r := H
      have A22 := Aside0.mk A220
      clear A220
      by_cases c23 : t364 = true
      ·subst c23
       have H1 : ((wire_Length.f a0_0 a0_1 a0_2 a0_3 l0_4).bind fun t365 => ((phaetonref05_Length.f kj5 a0_0 a0_1 a0_2 a0_3 l0_4).bind fun t366 => (phaetonlaw05_WireTells.j1 kj5 l1 a2 a3 t355 (t365 != t366)))) = some r := by rw [if_pos rfl] at H; exact H
       clear H
       have H := H1
       clear H1
       replace H := Option.bind_eq_some_iff.mp H
       obtain ⟨t365, A240, H⟩ := H
       replace H : ((phaetonref05_Length.f kj5 a0_0 a0_1 a0_2 a0_3 l0_4).bind fun t366 => (phaetonlaw05_WireTells.j1 kj5 l1 a2 a3 t355 (t365 != t366))) = some r := H
       have A24 := Aside0.mk A240
       clear A240
       replace H := Option.bind_eq_some_iff.mp H
       obtain ⟨t366, A250, H⟩ := H
       replace H : (phaetonlaw05_WireTells.j1 kj5 l1 a2 a3 t355 (t365 != t366)) = some r := H
       have A25 := Aside0.mk A250
       clear A250
       have H' := Aside0.mk H
       clear H
       try go_wp2
       have n0_ := Aside0.mk (blk_drew BK354.out)
       have n1_ := Aside0.mk (below_drew1 HB.out)
       clear BK354
       clear HB
       have BK354 := n0_
       have HB := n1_
       clear n0_ n1_
       refine start_ (n := 17) (S := fun w' => w'.cell? ⟨gb354, 0, none⟩ = some (.bool a0_0) ∧ w'.cell? ⟨gb354, 1, none⟩ = some (.int .i64 a0_1) ∧ w'.cell? ⟨gb354, 2, none⟩ = some (.bool a0_2) ∧ w'.cell? ⟨gb354, 3, none⟩ = some (.int .i64 a0_3) ∧ w'.cell? ⟨gb354, 4, none⟩ = some (.slice A0_4 l0_4.length c0_4)) (ds := []) #[false, false, false, false, false, false, false, false, false, false, false, false, false, false, false, false, false] (by kernel_rfl) rfl rfl ⟨(blk_cell BK354.out 0).trans rfl, (blk_cell BK354.out 1).trans rfl, (blk_cell BK354.out 2).trans rfl, (blk_cell BK354.out 3).trans rfl, (blk_cell BK354.out 4).trans rfl⟩ (fun hHeld => ?_); refine with_tabW phaetonlaw05_WireTells.tab4 phaetonlaw05_WireTells.bits4 (fun HT_ HW_ => ?_)
       generalize wc.drew = w26 at BK354 HB hHeld ⊢
       refine take_ (i := 0) (N := some 28) (v := ?_) (a' := ?_) #[true, false, false, false, false, false, false, false, false, false, false, false, false, false, false, false, false] rfl rfl (take_ofW HT_.out HW_.out (by kernel_rfl)) (fun _ _ _ h => h) (Or.inl ⟨by rfl, ?_⟩) hHeld ?_ ?_
       rotate_left
       ·rintro w' ⟨s0, s1, s2, s3, s4⟩
        go_simp
        with_reducible rfl
       rotate_left
       ·simp only [Act.put, HW.LA, HW.LZ, HW.LS, i64_w, i32_w]
        rfl
       refine one_ (i := 1) (N := some 29) #[true, true, false, false, false, false, false, false, false, false, false, false, false, false, false, false, false] rfl rfl (one_of HT_.out (by kernel_rfl)) (by decide) (fun K hK => ?_)
       refine goes_ Try.func12 (by kernel_rfl) rfl #[.agg #[.bool a0_0, .int .i64 a0_1, .bool a0_2, .int .i64 a0_3, .slice A0_4 l0_4.length c0_4]] (by rfl) rfl rfl (by (try simp only [List.map_toArray, List.map_cons, List.map_nil]); first | done | rfl | (simp only [List.length_drop, List.length_take]; rfl)) ?_
       with_reducible refine (phaetonref04_Right.calls kj5 a0_0 a0_1 a0_2 a0_3 _ _ l0_4 true _ ?side1 ?side2 A18.out).mono ?_
       (case side1 => repeat (first | exact (Kd.C_below HR0_4.out HB.out) | (with_reducible refine Kd.C_alloc ?_ _) | (with_reducible refine Kd.C_drewN ?_ _) | (with_reducible refine Kd.C_drew ?_)))
       (case side2 => exact HC0_4.out)
       rintro e w27 ⟨rfl, hb⟩
       refine ⟨_, rfl, ?_⟩
       have n0_ := Aside0.mk (blk_below (g := gb354) (o := .cells #[.bool a0_0, .int .i64 a0_1, .bool a0_2, .int .i64 a0_3, .slice A0_4 l0_4.length c0_4] 24 (0, 0)) (by (with_reducible repeat (first | refine blk_drewN ?_ _ | refine blk_drew ?_ | refine blk_alloc ?_ _)); exact BK354.out) hb)
       have n1_ := Aside0.mk (below_step (by repeat (first | (with_reducible first | exact HB.out | apply below_alloc | apply pw_below_drewN | apply below_drew1 | refine below_set ?_ GE354.out) | exact HB.out)) hb)
       clear BK354
       clear HB
       have BK354 := n0_
       have HB := n1_
       clear n0_ n1_
       (try clear hb)
       (try clear hb2)
       (try clear hk)
       (try clear hi)
       refine hK.out _ _ ⟨(blk_cell BK354.out 0).trans rfl, (blk_cell BK354.out 1).trans rfl, (blk_cell BK354.out 2).trans rfl, (blk_cell BK354.out 3).trans rfl, (blk_cell BK354.out 4).trans rfl⟩ (fun hHeld => ?_)
       clear hK K
       refine norm_ (a' := ?_) ?_ ?_
       rotate_left
       ·show Act.put _ (some 29) _ = _
        simp only [Act.put, HW.LA, HW.LZ, HW.LS, i64_w, i32_w]
        rfl
       refine pure_ (i := 2) (N := some 30) (v := ?_) (a' := ?_) #[true, true, true, false, false, false, false, false, false, false, false, false, false, false, false, false, false] rfl rfl (any_of HT_.out (by kernel_rfl)) (fun _ _ _ h => h) (Or.inl ⟨by rfl, ?_⟩) ?_ ?_
       rotate_left
       ·intro w'
        go_simp
        with_reducible rfl
       rotate_left
       ·simp only [Act.put, HW.LA, HW.LZ, HW.LS, i64_w, i32_w]
        rfl
       refine take_ (i := 3) (N := some 31) (v := ?_) (a' := ?_) #[true, true, true, true, false, false, false, false, false, false, false, false, false, false, false, false, false] rfl rfl (take_ofW HT_.out HW_.out (by kernel_rfl)) (fun _ _ _ h => h) (Or.inl ⟨by rfl, ?_⟩) hHeld ?_ ?_
       rotate_left
       ·rintro w' ⟨s0, s1, s2, s3, s4⟩
        go_simp
        with_reducible rfl
       rotate_left
       ·simp only [Act.put, HW.LA, HW.LZ, HW.LS, i64_w, i32_w]
        rfl
       refine take_ (i := 5) (N := some 33) (v := ?_) (a' := ?_) #[true, true, true, true, false, true, false, false, false, false, false, false, false, false, false, false, false] rfl rfl (take_ofW HT_.out HW_.out (by kernel_rfl)) (fun _ _ _ h => h) (Or.inl ⟨by rfl, ?_⟩) hHeld ?_ ?_
       rotate_left
       ·rintro w' ⟨s0, s1, s2, s3, s4⟩
        go_simp
        with_reducible rfl
       rotate_left
       ·simp only [Act.put, HW.LA, HW.LZ, HW.LS, i64_w, i32_w]
        rfl
       refine one_ (i := 4) (N := some 32) #[true, true, true, true, true, true, false, false, false, false, false, false, false, false, false, false, false] rfl rfl (one_of HT_.out (by kernel_rfl)) (by decide) (fun K hK => ?_)
       refine goes_ Try.func14 (by kernel_rfl) rfl #[.agg #[.bool a0_0, .int .i64 a0_1, .bool a0_2, .int .i64 a0_3, .slice A0_4 l0_4.length c0_4]] (by rfl) rfl rfl (by (try simp only [List.map_toArray, List.map_cons, List.map_nil]); first | done | rfl | (simp only [List.length_drop, List.length_take]; rfl)) ?_
       with_reducible refine (wire_Bits.calls a0_0 a0_1 a0_2 a0_3 _ _ l0_4 t358 _ ?side1 ?side2 A20.out).mono ?_
       (case side1 => repeat (first | exact (Kd.C_below HR0_4.out HB.out) | (with_reducible refine Kd.C_alloc ?_ _) | (with_reducible refine Kd.C_drewN ?_ _) | (with_reducible refine Kd.C_drew ?_)))
       (case side2 => exact HC0_4.out)
       rintro e w28 ⟨v359, rfl, ho0, hb⟩
       refine ⟨_, rfl, ?_⟩
       have n0_ := Aside0.mk (Kd.R_lower ho0 (below_size (by repeat (first | (with_reducible first | exact HB.out | apply below_alloc | apply pw_below_drewN | apply below_drew1 | refine below_set ?_ GE354.out) | exact HB.out))))
       have n1_ := Aside0.mk (blk_below (g := gb354) (o := .cells #[.bool a0_0, .int .i64 a0_1, .bool a0_2, .int .i64 a0_3, .slice A0_4 l0_4.length c0_4] 24 (0, 0)) (by (with_reducible repeat (first | refine blk_drewN ?_ _ | refine blk_drew ?_ | refine blk_alloc ?_ _)); exact BK354.out) hb)
       have n2_ := Aside0.mk (below_step (by repeat (first | (with_reducible first | exact HB.out | apply below_alloc | apply pw_below_drewN | apply below_drew1 | refine below_set ?_ GE354.out) | exact HB.out)) hb)
       clear BK354
       clear HB
       have HO360 := n0_
       have BK354 := n1_
       have HB := n2_
       clear n0_ n1_ n2_
       (try clear hb)
       (try clear hb2)
       (try clear hk)
       (try clear hi)
       (try clear ho0)
       refine hK.out _ _ ⟨(blk_cell BK354.out 0).trans rfl, (blk_cell BK354.out 1).trans rfl, (blk_cell BK354.out 2).trans rfl, (blk_cell BK354.out 3).trans rfl, (blk_cell BK354.out 4).trans rfl⟩ (fun hHeld => ?_)
       clear hK K
       refine norm_ (a' := ?_) ?_ ?_
       rotate_left
       ·show Act.put _ (some 32) _ = _
        simp only [Act.put, HW.LA, HW.LZ, HW.LS, i64_w, i32_w]
        rfl
       refine one_ (i := 6) (N := some 34) #[true, true, true, true, true, true, true, false, false, false, false, false, false, false, false, false, false] rfl rfl (one_of HT_.out (by kernel_rfl)) (by decide) (fun K hK => ?_)
       refine goes_ Try.func15 (by kernel_rfl) rfl #[.agg #[.bool a0_0, .int .i64 a0_1, .bool a0_2, .int .i64 a0_3, .slice A0_4 l0_4.length c0_4]] (by rfl) rfl rfl (by (try simp only [List.map_toArray, List.map_cons, List.map_nil]); first | done | rfl | (simp only [List.length_drop, List.length_take]; rfl)) ?_
       with_reducible refine (phaetonref05_Bits.calls kj5 a0_0 a0_1 a0_2 a0_3 _ _ l0_4 t361 _ ?side1 ?side2 A21.out).mono ?_
       (case side1 => repeat (first | exact (Kd.C_below HR0_4.out HB.out) | (with_reducible refine Kd.C_alloc ?_ _) | (with_reducible refine Kd.C_drewN ?_ _) | (with_reducible refine Kd.C_drew ?_)))
       (case side2 => exact HC0_4.out)
       rintro e w29 ⟨v362, rfl, ho0, hb⟩
       refine ⟨_, rfl, ?_⟩
       have n0_ := Aside0.mk (Kd.R_elder' (by (with_reducible repeat (first | apply Kd.R_alloc | apply Kd.R_drewN | apply Kd.R_drew)); exact HO360.out) (Kd.R_base ho0) hb)
       have n1_ := Aside0.mk (Kd.R_lower (Kd.R_new' ho0 (Kd.R_lt (by (with_reducible repeat (first | apply Kd.R_alloc | apply Kd.R_drewN | apply Kd.R_drew)); exact HO360.out))) (below_size (by repeat (first | (with_reducible first | exact HB.out | apply below_alloc | apply pw_below_drewN | apply below_drew1 | refine below_set ?_ GE354.out) | exact HB.out))))
       have n2_ := Aside0.mk (blk_below (g := gb354) (o := .cells #[.bool a0_0, .int .i64 a0_1, .bool a0_2, .int .i64 a0_3, .slice A0_4 l0_4.length c0_4] 24 (0, 0)) (by (with_reducible repeat (first | refine blk_drewN ?_ _ | refine blk_drew ?_ | refine blk_alloc ?_ _)); exact BK354.out) hb)
       have n3_ := Aside0.mk (below_step (by repeat (first | (with_reducible first | exact HB.out | apply below_alloc | apply pw_below_drewN | apply below_drew1 | refine below_set ?_ GE354.out) | exact HB.out)) hb)
       clear HO360
       clear BK354
       clear HB
       have HO360 := n0_
       have HO363 := n1_
       have BK354 := n2_
       have HB := n3_
       clear n0_ n1_ n2_ n3_
       (try clear hb)
       (try clear hb2)
       (try clear hk)
       (try clear hi)
       (try clear ho0)
       obtain ⟨Ao30, co30, eo30⟩ := Kd.R_slice HO360.out
       (first | subst eo30 | (injection eo30 with f1_ f2_ f3_; have f4_ := f1_.symm; have f5_ := f3_.symm; clear f1_ f2_ f3_; subst f4_; subst f5_))
       obtain ⟨Ao31, co31, eo31⟩ := Kd.R_slice HO363.out
       (first | subst eo31 | (injection eo31 with f1_ f2_ f3_; have f4_ := f1_.symm; have f5_ := f3_.symm; clear f1_ f2_ f3_; subst f4_; subst f5_))
       refine hK.out _ _ ⟨(blk_cell BK354.out 0).trans rfl, (blk_cell BK354.out 1).trans rfl, (blk_cell BK354.out 2).trans rfl, (blk_cell BK354.out 3).trans rfl, (blk_cell BK354.out 4).trans rfl⟩ (fun hHeld => ?_)
       clear hK K
       refine norm_ (a' := ?_) ?_ ?_
       rotate_left
       ·show Act.put _ (some 34) _ = _
        simp only [Act.put, HW.LA, HW.LZ, HW.LS, i64_w, i32_w]
        rfl
       refine one_ (i := 7) (N := some 35) #[true, true, true, true, true, true, true, true, false, false, false, false, false, false, false, false, false] rfl rfl (one_of HT_.out (by kernel_rfl)) (by decide) (fun K hK => ?_)
       refine goes_ Try.func13 (by kernel_rfl) rfl #[.slice Ao30 t358.length co30, .slice Ao31 t361.length co31] (by rfl) rfl rfl (by (try simp only [List.map_toArray, List.map_cons, List.map_nil]); first | done | rfl | (simp only [List.length_drop, List.length_take]; rfl)) ?_
       with_reducible refine (phaetonref01_Same.calls kj5 _ _ t358 _ _ t361 true _ ?side1 ?side2 ?side3 ?side4 A22.out).mono ?_
       (case side1 => repeat (first | exact (Kd.R_reads' HO360.out).2.2 | (with_reducible refine Kd.C_alloc ?_ _) | (with_reducible refine Kd.C_drewN ?_ _) | (with_reducible refine Kd.C_drew ?_)))
       (case side2 => exact (Kd.R_reads' HO360.out).2.1)
       (case side3 => repeat (first | exact (Kd.R_reads' HO363.out).2.2 | (with_reducible refine Kd.C_alloc ?_ _) | (with_reducible refine Kd.C_drewN ?_ _) | (with_reducible refine Kd.C_drew ?_)))
       (case side4 => exact (Kd.R_reads' HO363.out).2.1)
       rintro e w' ⟨rfl, ⟨nd, rfl⟩⟩
       refine ⟨_, rfl, ?_⟩
       refine hK.out _ _ ⟨(blk_cell BK354.out 0).trans rfl, (blk_cell BK354.out 1).trans rfl, (blk_cell BK354.out 2).trans rfl, (blk_cell BK354.out 3).trans rfl, (blk_cell BK354.out 4).trans rfl⟩ (fun hHeld => ?_)
       clear hK K
       refine norm_ (a' := ?_) ?_ ?_
       rotate_left
       ·show Act.put _ (some 35) _ = _
        simp only [Act.put, HW.LA, HW.LZ, HW.LS, i64_w, i32_w]
        rfl
       refine pure_ (i := 8) (N := some 36) (v := ?_) (a' := ?_) #[true, true, true, true, true, true, true, true, true, false, false, false, false, false, false, false, false] rfl rfl (any_of HT_.out (by kernel_rfl)) (fun _ _ _ h => h) (Or.inl ⟨by rfl, ?_⟩) ?_ ?_
       rotate_left
       ·intro w'
        go_simp
        with_reducible rfl
       rotate_left
       ·simp only [Act.put, HW.LA, HW.LZ, HW.LS, i64_w, i32_w]
        rfl
       refine pure_ (i := 9) (N := some 37) (v := ?_) (a' := ?_) #[true, true, true, true, true, true, true, true, true, true, false, false, false, false, false, false, false] rfl rfl (any_of HT_.out (by kernel_rfl)) (fun _ _ _ h => h) (Or.inl ⟨by rfl, ?_⟩) ?_ ?_
       rotate_left
       ·intro w'
        go_simp
        with_reducible rfl
       rotate_left
       ·simp only [Act.put, HW.LA, HW.LZ, HW.LS, i64_w, i32_w]
        rfl
       refine take_ (i := 10) (N := some 38) (v := ?_) (a' := ?_) #[true, true, true, true, true, true, true, true, true, true, true, false, false, false, false, false, false] rfl rfl (take_ofW HT_.out HW_.out (by kernel_rfl)) (fun _ _ _ h => h) (Or.inl ⟨by rfl, ?_⟩) hHeld ?_ ?_
       rotate_left
       ·rintro w' ⟨s0, s1, s2, s3, s4⟩
        go_simp
        with_reducible rfl
       rotate_left
       ·simp only [Act.put, HW.LA, HW.LZ, HW.LS, i64_w, i32_w]
        rfl
       refine take_ (i := 12) (N := some 40) (v := ?_) (a' := ?_) #[true, true, true, true, true, true, true, true, true, true, true, false, true, false, false, false, false] rfl rfl (take_ofW HT_.out HW_.out (by kernel_rfl)) (fun _ _ _ h => h) (Or.inl ⟨by rfl, ?_⟩) hHeld ?_ ?_
       rotate_left
       ·rintro w' ⟨s0, s1, s2, s3, s4⟩
        go_simp
        with_reducible rfl
       rotate_left
       ·simp only [Act.put, HW.LA, HW.LZ, HW.LS, i64_w, i32_w]
        rfl
       refine one_ (i := 11) (N := some 39) #[true, true, true, true, true, true, true, true, true, true, true, true, true, false, false, false, false] rfl rfl (one_of HT_.out (by kernel_rfl)) (by decide) (fun K hK => ?_)
       refine goes_ Try.func16 (by kernel_rfl) rfl #[.agg #[.bool a0_0, .int .i64 a0_1, .bool a0_2, .int .i64 a0_3, .slice A0_4 l0_4.length c0_4]] (by rfl) rfl rfl (by (try simp only [List.map_toArray, List.map_cons, List.map_nil]); first | done | rfl | (simp only [List.length_drop, List.length_take]; rfl)) ?_
       with_reducible refine (wire_Length.calls a0_0 a0_1 a0_2 a0_3 _ _ l0_4 t365 _ ?side1 ?side2 A24.out).mono ?_
       (case side1 => repeat (first | exact (Kd.C_below HR0_4.out (by repeat (first | (with_reducible first | exact HB.out | apply below_alloc | apply pw_below_drewN | apply below_drew1 | refine below_set ?_ GE354.out) | exact HB.out))) | (with_reducible refine Kd.C_alloc ?_ _) | (with_reducible refine Kd.C_drewN ?_ _) | (with_reducible refine Kd.C_drew ?_)))
       (case side2 => exact HC0_4.out)
       rintro e w32 ⟨rfl, hb⟩
       refine ⟨_, rfl, ?_⟩
       have n0_ := Aside0.mk (Kd.R_below (by (with_reducible repeat (first | apply Kd.R_alloc | apply Kd.R_drewN | apply Kd.R_drew)); exact HO360.out) hb)
       have n1_ := Aside0.mk (Kd.R_below (by (with_reducible repeat (first | apply Kd.R_alloc | apply Kd.R_drewN | apply Kd.R_drew)); exact HO363.out) hb)
       have n2_ := Aside0.mk (blk_below (g := gb354) (o := .cells #[.bool a0_0, .int .i64 a0_1, .bool a0_2, .int .i64 a0_3, .slice A0_4 l0_4.length c0_4] 24 (0, 0)) (by (with_reducible repeat (first | refine blk_drewN ?_ _ | refine blk_drew ?_ | refine blk_alloc ?_ _)); exact BK354.out) hb)
       have n3_ := Aside0.mk (below_step (by repeat (first | (with_reducible first | exact HB.out | apply below_alloc | apply pw_below_drewN | apply below_drew1 | refine below_set ?_ GE354.out) | exact HB.out)) hb)
       clear HO360
       clear HO363
       clear BK354
       clear HB
       have HO360 := n0_
       have HO363 := n1_
       have BK354 := n2_
       have HB := n3_
       clear n0_ n1_ n2_ n3_
       (try clear hb)
       (try clear hb2)
       (try clear hk)
       (try clear hi)
       refine hK.out _ _ ⟨(blk_cell BK354.out 0).trans rfl, (blk_cell BK354.out 1).trans rfl, (blk_cell BK354.out 2).trans rfl, (blk_cell BK354.out 3).trans rfl, (blk_cell BK354.out 4).trans rfl⟩ (fun hHeld => ?_)
       clear hK K
       refine norm_ (a' := ?_) ?_ ?_
       rotate_left
       ·show Act.put _ (some 39) _ = _
        simp only [Act.put, HW.LA, HW.LZ, HW.LS, i64_w, i32_w]
        rfl
       refine one_ (i := 13) (N := some 41) #[true, true, true, true, true, true, true, true, true, true, true, true, true, true, false, false, false] rfl rfl (one_of HT_.out (by kernel_rfl)) (by decide) (fun K hK => ?_)
       refine goes_ Try.func17 (by kernel_rfl) rfl #[.agg #[.bool a0_0, .int .i64 a0_1, .bool a0_2, .int .i64 a0_3, .slice A0_4 l0_4.length c0_4]] (by rfl) rfl rfl (by (try simp only [List.map_toArray, List.map_cons, List.map_nil]); first | done | rfl | (simp only [List.length_drop, List.length_take]; rfl)) ?_
       with_reducible refine (phaetonref05_Length.calls kj5 a0_0 a0_1 a0_2 a0_3 _ _ l0_4 t366 _ ?side1 ?side2 A25.out).mono ?_
       (case side1 => repeat (first | exact (Kd.C_below HR0_4.out HB.out) | (with_reducible refine Kd.C_alloc ?_ _) | (with_reducible refine Kd.C_drewN ?_ _) | (with_reducible refine Kd.C_drew ?_)))
       (case side2 => exact HC0_4.out)
       rintro e w33 ⟨rfl, hb⟩
       refine ⟨_, rfl, ?_⟩
       have n0_ := Aside0.mk (Kd.R_below (by (with_reducible repeat (first | apply Kd.R_alloc | apply Kd.R_drewN | apply Kd.R_drew)); exact HO360.out) hb)
       have n1_ := Aside0.mk (Kd.R_below (by (with_reducible repeat (first | apply Kd.R_alloc | apply Kd.R_drewN | apply Kd.R_drew)); exact HO363.out) hb)
       have n2_ := Aside0.mk (blk_below (g := gb354) (o := .cells #[.bool a0_0, .int .i64 a0_1, .bool a0_2, .int .i64 a0_3, .slice A0_4 l0_4.length c0_4] 24 (0, 0)) (by (with_reducible repeat (first | refine blk_drewN ?_ _ | refine blk_drew ?_ | refine blk_alloc ?_ _)); exact BK354.out) hb)
       have n3_ := Aside0.mk (below_step (by repeat (first | (with_reducible first | exact HB.out | apply below_alloc | apply pw_below_drewN | apply below_drew1 | refine below_set ?_ GE354.out) | exact HB.out)) hb)
       clear HO360
       clear HO363
       clear BK354
       clear HB
       have HO360 := n0_
       have HO363 := n1_
       have BK354 := n2_
       have HB := n3_
       clear n0_ n1_ n2_ n3_
       (try clear hb)
       (try clear hb2)
       (try clear hk)
       (try clear hi)
       refine hK.out _ _ ⟨(blk_cell BK354.out 0).trans rfl, (blk_cell BK354.out 1).trans rfl, (blk_cell BK354.out 2).trans rfl, (blk_cell BK354.out 3).trans rfl, (blk_cell BK354.out 4).trans rfl⟩ (fun hHeld => ?_)
       clear hK K
       refine norm_ (a' := ?_) ?_ ?_
       rotate_left
       ·show Act.put _ (some 41) _ = _
        simp only [Act.put, HW.LA, HW.LZ, HW.LS, i64_w, i32_w]
        rfl
       refine pure_ (i := 14) (N := some 42) (v := ?_) (a' := ?_) #[true, true, true, true, true, true, true, true, true, true, true, true, true, true, true, false, false] rfl rfl (any_of HT_.out (by kernel_rfl)) (fun _ _ _ h => h) (Or.inl ⟨by rfl, ?_⟩) ?_ ?_
       rotate_left
       ·intro w'
        go_simp
        with_reducible rfl
       rotate_left
       ·simp only [Act.put, HW.LA, HW.LZ, HW.LS, i64_w, i32_w]
        rfl
       refine pure_ (i := 15) (N := some 43) (v := ?_) (a' := ?_) #[true, true, true, true, true, true, true, true, true, true, true, true, true, true, true, true, false] rfl rfl (any_of HT_.out (by kernel_rfl)) (fun _ _ _ h => h) (Or.inl ⟨by rfl, ?_⟩) ?_ ?_
       rotate_left
       ·intro w'
        go_simp
        with_reducible rfl
       rotate_left
       ·simp only [Act.put, HW.LA, HW.LZ, HW.LS, i64_w, i32_w]
        rfl
       refine pure_ (i := 16) (N := some 44) (v := ?_) (a' := ?_) #[true, true, true, true, true, true, true, true, true, true, true, true, true, true, true, true, true] rfl rfl (any_of HT_.out (by kernel_rfl)) (fun _ _ _ h => h) (Or.inl ⟨by rfl, ?_⟩) ?_ ?_
       rotate_left
       ·intro w'
        go_simp
        with_reducible rfl
       rotate_left
       ·simp only [Act.put, HW.LA, HW.LZ, HW.LS, i64_w, i32_w]
        rfl
       refine done_ (done_of HT_.out (by kernel_rfl)) ?_
       try go_wp2
       go_meet
       case rel => exact ⟨_, ((t365 != t366)), (by first | rfl | (simp; done) | (simp [*]; done)), H', ⟨by have := HJ5.out; first | omega | exact Nat.le_refl _⟩, ⟨by (with_reducible repeat (first | refine blk_drewN ?_ _ | refine blk_drew ?_ | refine blk_alloc ?_ _)); exact BK354.out⟩, ⟨by repeat (first | (with_reducible first | exact HB.out | apply below_alloc | apply pw_below_drewN | apply below_drew1 | refine below_set ?_ GE354.out) | exact HB.out)⟩⟩
      ·replace c23 := Bool.eq_false_iff.mpr c23
       subst c23
       have H1 : (phaetonlaw05_WireTells.j1 kj5 l1 a2 a3 t355 true) = some r := by rw [if_neg (show ¬ (false = true) by decide)] at H; exact H
       clear H
       have H := H1
       clear H1
       have H' := Aside0.mk H
       clear H
       try go_wp2
       have n0_ := Aside0.mk (blk_drew BK354.out)
       have n1_ := Aside0.mk (below_drew1 HB.out)
       clear BK354
       clear HB
       have BK354 := n0_
       have HB := n1_
       clear n0_ n1_
       refine start_ (n := 17) (S := fun w' => w'.cell? ⟨gb354, 0, none⟩ = some (.bool a0_0) ∧ w'.cell? ⟨gb354, 1, none⟩ = some (.int .i64 a0_1) ∧ w'.cell? ⟨gb354, 2, none⟩ = some (.bool a0_2) ∧ w'.cell? ⟨gb354, 3, none⟩ = some (.int .i64 a0_3) ∧ w'.cell? ⟨gb354, 4, none⟩ = some (.slice A0_4 l0_4.length c0_4)) (ds := []) #[false, false, false, false, false, false, false, false, false, false, false, false, false, false, false, false, false] (by kernel_rfl) rfl rfl ⟨(blk_cell BK354.out 0).trans rfl, (blk_cell BK354.out 1).trans rfl, (blk_cell BK354.out 2).trans rfl, (blk_cell BK354.out 3).trans rfl, (blk_cell BK354.out 4).trans rfl⟩ (fun hHeld => ?_); refine with_tabW phaetonlaw05_WireTells.tab4 phaetonlaw05_WireTells.bits4 (fun HT_ HW_ => ?_)
       generalize wc.drew = w34 at BK354 HB hHeld ⊢
       refine take_ (i := 0) (N := some 28) (v := ?_) (a' := ?_) #[true, false, false, false, false, false, false, false, false, false, false, false, false, false, false, false, false] rfl rfl (take_ofW HT_.out HW_.out (by kernel_rfl)) (fun _ _ _ h => h) (Or.inl ⟨by rfl, ?_⟩) hHeld ?_ ?_
       rotate_left
       ·rintro w' ⟨s0, s1, s2, s3, s4⟩
        go_simp
        with_reducible rfl
       rotate_left
       ·simp only [Act.put, HW.LA, HW.LZ, HW.LS, i64_w, i32_w]
        rfl
       refine one_ (i := 1) (N := some 29) #[true, true, false, false, false, false, false, false, false, false, false, false, false, false, false, false, false] rfl rfl (one_of HT_.out (by kernel_rfl)) (by decide) (fun K hK => ?_)
       refine goes_ Try.func12 (by kernel_rfl) rfl #[.agg #[.bool a0_0, .int .i64 a0_1, .bool a0_2, .int .i64 a0_3, .slice A0_4 l0_4.length c0_4]] (by rfl) rfl rfl (by (try simp only [List.map_toArray, List.map_cons, List.map_nil]); first | done | rfl | (simp only [List.length_drop, List.length_take]; rfl)) ?_
       with_reducible refine (phaetonref04_Right.calls kj5 a0_0 a0_1 a0_2 a0_3 _ _ l0_4 true _ ?side1 ?side2 A18.out).mono ?_
       (case side1 => repeat (first | exact (Kd.C_below HR0_4.out HB.out) | (with_reducible refine Kd.C_alloc ?_ _) | (with_reducible refine Kd.C_drewN ?_ _) | (with_reducible refine Kd.C_drew ?_)))
       (case side2 => exact HC0_4.out)
       rintro e w35 ⟨rfl, hb⟩
       refine ⟨_, rfl, ?_⟩
       have n0_ := Aside0.mk (blk_below (g := gb354) (o := .cells #[.bool a0_0, .int .i64 a0_1, .bool a0_2, .int .i64 a0_3, .slice A0_4 l0_4.length c0_4] 24 (0, 0)) (by (with_reducible repeat (first | refine blk_drewN ?_ _ | refine blk_drew ?_ | refine blk_alloc ?_ _)); exact BK354.out) hb)
       have n1_ := Aside0.mk (below_step (by repeat (first | (with_reducible first | exact HB.out | apply below_alloc | apply pw_below_drewN | apply below_drew1 | refine below_set ?_ GE354.out) | exact HB.out)) hb)
       clear BK354
       clear HB
       have BK354 := n0_
       have HB := n1_
       clear n0_ n1_
       (try clear hb)
       (try clear hb2)
       (try clear hk)
       (try clear hi)
       refine hK.out _ _ ⟨(blk_cell BK354.out 0).trans rfl, (blk_cell BK354.out 1).trans rfl, (blk_cell BK354.out 2).trans rfl, (blk_cell BK354.out 3).trans rfl, (blk_cell BK354.out 4).trans rfl⟩ (fun hHeld => ?_)
       clear hK K
       refine norm_ (a' := ?_) ?_ ?_
       rotate_left
       ·show Act.put _ (some 29) _ = _
        simp only [Act.put, HW.LA, HW.LZ, HW.LS, i64_w, i32_w]
        rfl
       refine pure_ (i := 2) (N := some 30) (v := ?_) (a' := ?_) #[true, true, true, false, false, false, false, false, false, false, false, false, false, false, false, false, false] rfl rfl (any_of HT_.out (by kernel_rfl)) (fun _ _ _ h => h) (Or.inl ⟨by rfl, ?_⟩) ?_ ?_
       rotate_left
       ·intro w'
        go_simp
        with_reducible rfl
       rotate_left
       ·simp only [Act.put, HW.LA, HW.LZ, HW.LS, i64_w, i32_w]
        rfl
       refine take_ (i := 3) (N := some 31) (v := ?_) (a' := ?_) #[true, true, true, true, false, false, false, false, false, false, false, false, false, false, false, false, false] rfl rfl (take_ofW HT_.out HW_.out (by kernel_rfl)) (fun _ _ _ h => h) (Or.inl ⟨by rfl, ?_⟩) hHeld ?_ ?_
       rotate_left
       ·rintro w' ⟨s0, s1, s2, s3, s4⟩
        go_simp
        with_reducible rfl
       rotate_left
       ·simp only [Act.put, HW.LA, HW.LZ, HW.LS, i64_w, i32_w]
        rfl
       refine take_ (i := 5) (N := some 33) (v := ?_) (a' := ?_) #[true, true, true, true, false, true, false, false, false, false, false, false, false, false, false, false, false] rfl rfl (take_ofW HT_.out HW_.out (by kernel_rfl)) (fun _ _ _ h => h) (Or.inl ⟨by rfl, ?_⟩) hHeld ?_ ?_
       rotate_left
       ·rintro w' ⟨s0, s1, s2, s3, s4⟩
        go_simp
        with_reducible rfl
       rotate_left
       ·simp only [Act.put, HW.LA, HW.LZ, HW.LS, i64_w, i32_w]
        rfl
       refine one_ (i := 4) (N := some 32) #[true, true, true, true, true, true, false, false, false, false, false, false, false, false, false, false, false] rfl rfl (one_of HT_.out (by kernel_rfl)) (by decide) (fun K hK => ?_)
       refine goes_ Try.func14 (by kernel_rfl) rfl #[.agg #[.bool a0_0, .int .i64 a0_1, .bool a0_2, .int .i64 a0_3, .slice A0_4 l0_4.length c0_4]] (by rfl) rfl rfl (by (try simp only [List.map_toArray, List.map_cons, List.map_nil]); first | done | rfl | (simp only [List.length_drop, List.length_take]; rfl)) ?_
       with_reducible refine (wire_Bits.calls a0_0 a0_1 a0_2 a0_3 _ _ l0_4 t358 _ ?side1 ?side2 A20.out).mono ?_
       (case side1 => repeat (first | exact (Kd.C_below HR0_4.out HB.out) | (with_reducible refine Kd.C_alloc ?_ _) | (with_reducible refine Kd.C_drewN ?_ _) | (with_reducible refine Kd.C_drew ?_)))
       (case side2 => exact HC0_4.out)
       rintro e w36 ⟨v359, rfl, ho0, hb⟩
       refine ⟨_, rfl, ?_⟩
       have n0_ := Aside0.mk (Kd.R_lower ho0 (below_size (by repeat (first | (with_reducible first | exact HB.out | apply below_alloc | apply pw_below_drewN | apply below_drew1 | refine below_set ?_ GE354.out) | exact HB.out))))
       have n1_ := Aside0.mk (blk_below (g := gb354) (o := .cells #[.bool a0_0, .int .i64 a0_1, .bool a0_2, .int .i64 a0_3, .slice A0_4 l0_4.length c0_4] 24 (0, 0)) (by (with_reducible repeat (first | refine blk_drewN ?_ _ | refine blk_drew ?_ | refine blk_alloc ?_ _)); exact BK354.out) hb)
       have n2_ := Aside0.mk (below_step (by repeat (first | (with_reducible first | exact HB.out | apply below_alloc | apply pw_below_drewN | apply below_drew1 | refine below_set ?_ GE354.out) | exact HB.out)) hb)
       clear BK354
       clear HB
       have HO360 := n0_
       have BK354 := n1_
       have HB := n2_
       clear n0_ n1_ n2_
       (try clear hb)
       (try clear hb2)
       (try clear hk)
       (try clear hi)
       (try clear ho0)
       refine hK.out _ _ ⟨(blk_cell BK354.out 0).trans rfl, (blk_cell BK354.out 1).trans rfl, (blk_cell BK354.out 2).trans rfl, (blk_cell BK354.out 3).trans rfl, (blk_cell BK354.out 4).trans rfl⟩ (fun hHeld => ?_)
       clear hK K
       refine norm_ (a' := ?_) ?_ ?_
       rotate_left
       ·show Act.put _ (some 32) _ = _
        simp only [Act.put, HW.LA, HW.LZ, HW.LS, i64_w, i32_w]
        rfl
       refine one_ (i := 6) (N := some 34) #[true, true, true, true, true, true, true, false, false, false, false, false, false, false, false, false, false] rfl rfl (one_of HT_.out (by kernel_rfl)) (by decide) (fun K hK => ?_)
       refine goes_ Try.func15 (by kernel_rfl) rfl #[.agg #[.bool a0_0, .int .i64 a0_1, .bool a0_2, .int .i64 a0_3, .slice A0_4 l0_4.length c0_4]] (by rfl) rfl rfl (by (try simp only [List.map_toArray, List.map_cons, List.map_nil]); first | done | rfl | (simp only [List.length_drop, List.length_take]; rfl)) ?_
       with_reducible refine (phaetonref05_Bits.calls kj5 a0_0 a0_1 a0_2 a0_3 _ _ l0_4 t361 _ ?side1 ?side2 A21.out).mono ?_
       (case side1 => repeat (first | exact (Kd.C_below HR0_4.out HB.out) | (with_reducible refine Kd.C_alloc ?_ _) | (with_reducible refine Kd.C_drewN ?_ _) | (with_reducible refine Kd.C_drew ?_)))
       (case side2 => exact HC0_4.out)
       rintro e w37 ⟨v362, rfl, ho0, hb⟩
       refine ⟨_, rfl, ?_⟩
       have n0_ := Aside0.mk (Kd.R_elder' (by (with_reducible repeat (first | apply Kd.R_alloc | apply Kd.R_drewN | apply Kd.R_drew)); exact HO360.out) (Kd.R_base ho0) hb)
       have n1_ := Aside0.mk (Kd.R_lower (Kd.R_new' ho0 (Kd.R_lt (by (with_reducible repeat (first | apply Kd.R_alloc | apply Kd.R_drewN | apply Kd.R_drew)); exact HO360.out))) (below_size (by repeat (first | (with_reducible first | exact HB.out | apply below_alloc | apply pw_below_drewN | apply below_drew1 | refine below_set ?_ GE354.out) | exact HB.out))))
       have n2_ := Aside0.mk (blk_below (g := gb354) (o := .cells #[.bool a0_0, .int .i64 a0_1, .bool a0_2, .int .i64 a0_3, .slice A0_4 l0_4.length c0_4] 24 (0, 0)) (by (with_reducible repeat (first | refine blk_drewN ?_ _ | refine blk_drew ?_ | refine blk_alloc ?_ _)); exact BK354.out) hb)
       have n3_ := Aside0.mk (below_step (by repeat (first | (with_reducible first | exact HB.out | apply below_alloc | apply pw_below_drewN | apply below_drew1 | refine below_set ?_ GE354.out) | exact HB.out)) hb)
       clear HO360
       clear BK354
       clear HB
       have HO360 := n0_
       have HO363 := n1_
       have BK354 := n2_
       have HB := n3_
       clear n0_ n1_ n2_ n3_
       (try clear hb)
       (try clear hb2)
       (try clear hk)
       (try clear hi)
       (try clear ho0)
       obtain ⟨Ao38, co38, eo38⟩ := Kd.R_slice HO360.out
       (first | subst eo38 | (injection eo38 with f1_ f2_ f3_; have f4_ := f1_.symm; have f5_ := f3_.symm; clear f1_ f2_ f3_; subst f4_; subst f5_))
       obtain ⟨Ao39, co39, eo39⟩ := Kd.R_slice HO363.out
       (first | subst eo39 | (injection eo39 with f1_ f2_ f3_; have f4_ := f1_.symm; have f5_ := f3_.symm; clear f1_ f2_ f3_; subst f4_; subst f5_))
       refine hK.out _ _ ⟨(blk_cell BK354.out 0).trans rfl, (blk_cell BK354.out 1).trans rfl, (blk_cell BK354.out 2).trans rfl, (blk_cell BK354.out 3).trans rfl, (blk_cell BK354.out 4).trans rfl⟩ (fun hHeld => ?_)
       clear hK K
       refine norm_ (a' := ?_) ?_ ?_
       rotate_left
       ·show Act.put _ (some 34) _ = _
        simp only [Act.put, HW.LA, HW.LZ, HW.LS, i64_w, i32_w]
        rfl
       refine one_ (i := 7) (N := some 35) #[true, true, true, true, true, true, true, true, false, false, false, false, false, false, false, false, false] rfl rfl (one_of HT_.out (by kernel_rfl)) (by decide) (fun K hK => ?_)
       refine goes_ Try.func13 (by kernel_rfl) rfl #[.slice Ao38 t358.length co38, .slice Ao39 t361.length co39] (by rfl) rfl rfl (by (try simp only [List.map_toArray, List.map_cons, List.map_nil]); first | done | rfl | (simp only [List.length_drop, List.length_take]; rfl)) ?_
       with_reducible refine (phaetonref01_Same.calls kj5 _ _ t358 _ _ t361 false _ ?side1 ?side2 ?side3 ?side4 A22.out).mono ?_
       (case side1 => repeat (first | exact (Kd.R_reads' HO360.out).2.2 | (with_reducible refine Kd.C_alloc ?_ _) | (with_reducible refine Kd.C_drewN ?_ _) | (with_reducible refine Kd.C_drew ?_)))
       (case side2 => exact (Kd.R_reads' HO360.out).2.1)
       (case side3 => repeat (first | exact (Kd.R_reads' HO363.out).2.2 | (with_reducible refine Kd.C_alloc ?_ _) | (with_reducible refine Kd.C_drewN ?_ _) | (with_reducible refine Kd.C_drew ?_)))
       (case side4 => exact (Kd.R_reads' HO363.out).2.1)
       rintro e w' ⟨rfl, ⟨nd, rfl⟩⟩
       refine ⟨_, rfl, ?_⟩
       refine hK.out _ _ ⟨(blk_cell BK354.out 0).trans rfl, (blk_cell BK354.out 1).trans rfl, (blk_cell BK354.out 2).trans rfl, (blk_cell BK354.out 3).trans rfl, (blk_cell BK354.out 4).trans rfl⟩ (fun hHeld => ?_)
       clear hK K
       refine norm_ (a' := ?_) ?_ ?_
       rotate_left
       ·show Act.put _ (some 35) _ = _
        simp only [Act.put, HW.LA, HW.LZ, HW.LS, i64_w, i32_w]
        rfl
       refine pure_ (i := 8) (N := some 36) (v := ?_) (a' := ?_) #[true, true, true, true, true, true, true, true, true, false, false, false, false, false, false, false, false] rfl rfl (any_of HT_.out (by kernel_rfl)) (fun _ _ _ h => h) (Or.inl ⟨by rfl, ?_⟩) ?_ ?_
       rotate_left
       ·intro w'
        go_simp
        with_reducible rfl
       rotate_left
       ·simp only [Act.put, HW.LA, HW.LZ, HW.LS, i64_w, i32_w]
        rfl
       refine pure_ (i := 9) (N := some 37) (v := ?_) (a' := ?_) #[true, true, true, true, true, true, true, true, true, true, false, false, false, false, false, false, false] rfl rfl (any_of HT_.out (by kernel_rfl)) (fun _ _ _ h => h) (Or.inl ⟨by rfl, ?_⟩) ?_ ?_
       rotate_left
       ·intro w'
        go_simp
        with_reducible rfl
       rotate_left
       ·simp only [Act.put, HW.LA, HW.LZ, HW.LS, i64_w, i32_w]
        rfl
       refine pure_ (i := 10) (N := some 38) (v := undef) (a' := ?_) #[true, true, true, true, true, true, true, true, true, true, true, false, false, false, false, false, false] rfl rfl (any_of HT_.out (by kernel_rfl)) (fun _ _ _ h => h) (Or.inr ⟨by rfl, rfl⟩) ?_ ?_
       rotate_left
       ·simp only [Act.put, HW.LA, HW.LZ, HW.LS, i64_w, i32_w]
        rfl
       refine pure_ (i := 11) (N := some 39) (v := undef) (a' := ?_) #[true, true, true, true, true, true, true, true, true, true, true, true, false, false, false, false, false] rfl rfl (any_of HT_.out (by kernel_rfl)) (fun _ _ _ h => h) (Or.inr ⟨by rfl, rfl⟩) ?_ ?_
       rotate_left
       ·simp only [Act.put, HW.LA, HW.LZ, HW.LS, i64_w, i32_w]
        rfl
       refine pure_ (i := 12) (N := some 40) (v := undef) (a' := ?_) #[true, true, true, true, true, true, true, true, true, true, true, true, true, false, false, false, false] rfl rfl (any_of HT_.out (by kernel_rfl)) (fun _ _ _ h => h) (Or.inr ⟨by rfl, rfl⟩) ?_ ?_
       rotate_left
       ·simp only [Act.put, HW.LA, HW.LZ, HW.LS, i64_w, i32_w]
        rfl
       refine pure_ (i := 13) (N := some 41) (v := undef) (a' := ?_) #[true, true, true, true, true, true, true, true, true, true, true, true, true, true, false, false, false] rfl rfl (any_of HT_.out (by kernel_rfl)) (fun _ _ _ h => h) (Or.inr ⟨by rfl, rfl⟩) ?_ ?_
       rotate_left
       ·simp only [Act.put, HW.LA, HW.LZ, HW.LS, i64_w, i32_w]
        rfl
       refine pure_ (i := 14) (N := some 42) (v := undef) (a' := ?_) #[true, true, true, true, true, true, true, true, true, true, true, true, true, true, true, false, false] rfl rfl (any_of HT_.out (by kernel_rfl)) (fun _ _ _ h => h) (Or.inr ⟨by rfl, rfl⟩) ?_ ?_
       rotate_left
       ·simp only [Act.put, HW.LA, HW.LZ, HW.LS, i64_w, i32_w]
        rfl
       refine pure_ (i := 15) (N := some 43) (v := ?_) (a' := ?_) #[true, true, true, true, true, true, true, true, true, true, true, true, true, true, true, true, false] rfl rfl (any_of HT_.out (by kernel_rfl)) (fun _ _ _ h => h) (Or.inl ⟨by rfl, ?_⟩) ?_ ?_
       rotate_left
       ·intro w'
        go_simp
        with_reducible rfl
       rotate_left
       ·simp only [Act.put, HW.LA, HW.LZ, HW.LS, i64_w, i32_w]
        rfl
       refine pure_ (i := 16) (N := some 44) (v := ?_) (a' := ?_) #[true, true, true, true, true, true, true, true, true, true, true, true, true, true, true, true, true] rfl rfl (any_of HT_.out (by kernel_rfl)) (fun _ _ _ h => h) (Or.inl ⟨by rfl, ?_⟩) ?_ ?_
       rotate_left
       ·intro w'
        go_simp
        with_reducible rfl
       rotate_left
       ·simp only [Act.put, HW.LA, HW.LZ, HW.LS, i64_w, i32_w]
        rfl
       refine done_ (done_of HT_.out (by kernel_rfl)) ?_
       try go_wp2
       go_meet
       case rel => exact ⟨_, (true), (by first | rfl | (simp; done) | (simp [*]; done)), H', ⟨by have := HJ5.out; first | omega | exact Nat.le_refl _⟩, ⟨by (with_reducible repeat (first | refine blk_drewN ?_ _ | refine blk_drew ?_ | refine blk_alloc ?_ _)); exact BK354.out⟩, ⟨by repeat (first | (with_reducible first | exact HB.out | apply below_alloc | apply pw_below_drewN | apply below_drew1 | refine below_set ?_ GE354.out) | exact HB.out)⟩⟩
     ·replace c19 := Bool.eq_false_iff.mpr c19
      subst c19
      have H1 : (phaetonlaw05_WireTells.j1 kj5 l1 a2 a3 t355 false) = some r := by rw [if_neg (show ¬ (false = true) by decide)] at H; exact H
      clear H
      have H := H1
      clear H1
      have H' := Aside0.mk H
      clear H
      try go_wp2
      have n0_ := Aside0.mk (blk_drew BK354.out)
      have n1_ := Aside0.mk (below_drew1 HB.out)
      clear BK354
      clear HB
      have BK354 := n0_
      have HB := n1_
      clear n0_ n1_
      refine start_ (n := 17) (S := fun w' => w'.cell? ⟨gb354, 0, none⟩ = some (.bool a0_0) ∧ w'.cell? ⟨gb354, 1, none⟩ = some (.int .i64 a0_1) ∧ w'.cell? ⟨gb354, 2, none⟩ = some (.bool a0_2) ∧ w'.cell? ⟨gb354, 3, none⟩ = some (.int .i64 a0_3) ∧ w'.cell? ⟨gb354, 4, none⟩ = some (.slice A0_4 l0_4.length c0_4)) (ds := []) #[false, false, false, false, false, false, false, false, false, false, false, false, false, false, false, false, false] (by kernel_rfl) rfl rfl ⟨(blk_cell BK354.out 0).trans rfl, (blk_cell BK354.out 1).trans rfl, (blk_cell BK354.out 2).trans rfl, (blk_cell BK354.out 3).trans rfl, (blk_cell BK354.out 4).trans rfl⟩ (fun hHeld => ?_); refine with_tabW phaetonlaw05_WireTells.tab4 phaetonlaw05_WireTells.bits4 (fun HT_ HW_ => ?_)
      generalize wc.drew = w40 at BK354 HB hHeld ⊢
      refine take_ (i := 0) (N := some 28) (v := ?_) (a' := ?_) #[true, false, false, false, false, false, false, false, false, false, false, false, false, false, false, false, false] rfl rfl (take_ofW HT_.out HW_.out (by kernel_rfl)) (fun _ _ _ h => h) (Or.inl ⟨by rfl, ?_⟩) hHeld ?_ ?_
      rotate_left
      ·rintro w' ⟨s0, s1, s2, s3, s4⟩
       go_simp
       with_reducible rfl
      rotate_left
      ·simp only [Act.put, HW.LA, HW.LZ, HW.LS, i64_w, i32_w]
       rfl
      refine one_ (i := 1) (N := some 29) #[true, true, false, false, false, false, false, false, false, false, false, false, false, false, false, false, false] rfl rfl (one_of HT_.out (by kernel_rfl)) (by decide) (fun K hK => ?_)
      refine goes_ Try.func12 (by kernel_rfl) rfl #[.agg #[.bool a0_0, .int .i64 a0_1, .bool a0_2, .int .i64 a0_3, .slice A0_4 l0_4.length c0_4]] (by rfl) rfl rfl (by (try simp only [List.map_toArray, List.map_cons, List.map_nil]); first | done | rfl | (simp only [List.length_drop, List.length_take]; rfl)) ?_
      with_reducible refine (phaetonref04_Right.calls kj5 a0_0 a0_1 a0_2 a0_3 _ _ l0_4 false _ ?side1 ?side2 A18.out).mono ?_
      (case side1 => repeat (first | exact (Kd.C_below HR0_4.out HB.out) | (with_reducible refine Kd.C_alloc ?_ _) | (with_reducible refine Kd.C_drewN ?_ _) | (with_reducible refine Kd.C_drew ?_)))
      (case side2 => exact HC0_4.out)
      rintro e w41 ⟨rfl, hb⟩
      refine ⟨_, rfl, ?_⟩
      have n0_ := Aside0.mk (blk_below (g := gb354) (o := .cells #[.bool a0_0, .int .i64 a0_1, .bool a0_2, .int .i64 a0_3, .slice A0_4 l0_4.length c0_4] 24 (0, 0)) (by (with_reducible repeat (first | refine blk_drewN ?_ _ | refine blk_drew ?_ | refine blk_alloc ?_ _)); exact BK354.out) hb)
      have n1_ := Aside0.mk (below_step (by repeat (first | (with_reducible first | exact HB.out | apply below_alloc | apply pw_below_drewN | apply below_drew1 | refine below_set ?_ GE354.out) | exact HB.out)) hb)
      clear BK354
      clear HB
      have BK354 := n0_
      have HB := n1_
      clear n0_ n1_
      (try clear hb)
      (try clear hb2)
      (try clear hk)
      (try clear hi)
      refine hK.out _ _ ⟨(blk_cell BK354.out 0).trans rfl, (blk_cell BK354.out 1).trans rfl, (blk_cell BK354.out 2).trans rfl, (blk_cell BK354.out 3).trans rfl, (blk_cell BK354.out 4).trans rfl⟩ (fun hHeld => ?_)
      clear hK K
      refine norm_ (a' := ?_) ?_ ?_
      rotate_left
      ·show Act.put _ (some 29) _ = _
       simp only [Act.put, HW.LA, HW.LZ, HW.LS, i64_w, i32_w]
       rfl
      refine pure_ (i := 2) (N := some 30) (v := ?_) (a' := ?_) #[true, true, true, false, false, false, false, false, false, false, false, false, false, false, false, false, false] rfl rfl (any_of HT_.out (by kernel_rfl)) (fun _ _ _ h => h) (Or.inl ⟨by rfl, ?_⟩) ?_ ?_
      rotate_left
      ·intro w'
       go_simp
       with_reducible rfl
      rotate_left
      ·simp only [Act.put, HW.LA, HW.LZ, HW.LS, i64_w, i32_w]
       rfl
      refine pure_ (i := 3) (N := some 31) (v := undef) (a' := ?_) #[true, true, true, true, false, false, false, false, false, false, false, false, false, false, false, false, false] rfl rfl (any_of HT_.out (by kernel_rfl)) (fun _ _ _ h => h) (Or.inr ⟨by rfl, rfl⟩) ?_ ?_
      rotate_left
      ·simp only [Act.put, HW.LA, HW.LZ, HW.LS, i64_w, i32_w]
       rfl
      refine pure_ (i := 4) (N := some 32) (v := undef) (a' := ?_) #[true, true, true, true, true, false, false, false, false, false, false, false, false, false, false, false, false] rfl rfl (any_of HT_.out (by kernel_rfl)) (fun _ _ _ h => h) (Or.inr ⟨by rfl, rfl⟩) ?_ ?_
      rotate_left
      ·simp only [Act.put, HW.LA, HW.LZ, HW.LS, i64_w, i32_w]
       rfl
      refine pure_ (i := 5) (N := some 33) (v := undef) (a' := ?_) #[true, true, true, true, true, true, false, false, false, false, false, false, false, false, false, false, false] rfl rfl (any_of HT_.out (by kernel_rfl)) (fun _ _ _ h => h) (Or.inr ⟨by rfl, rfl⟩) ?_ ?_
      rotate_left
      ·simp only [Act.put, HW.LA, HW.LZ, HW.LS, i64_w, i32_w]
       rfl
      refine pure_ (i := 6) (N := some 34) (v := undef) (a' := ?_) #[true, true, true, true, true, true, true, false, false, false, false, false, false, false, false, false, false] rfl rfl (any_of HT_.out (by kernel_rfl)) (fun _ _ _ h => h) (Or.inr ⟨by rfl, rfl⟩) ?_ ?_
      rotate_left
      ·simp only [Act.put, HW.LA, HW.LZ, HW.LS, i64_w, i32_w]
       rfl
      refine pure_ (i := 7) (N := some 35) (v := undef) (a' := ?_) #[true, true, true, true, true, true, true, true, false, false, false, false, false, false, false, false, false] rfl rfl (any_of HT_.out (by kernel_rfl)) (fun _ _ _ h => h) (Or.inr ⟨by rfl, rfl⟩) ?_ ?_
      rotate_left
      ·simp only [Act.put, HW.LA, HW.LZ, HW.LS, i64_w, i32_w]
       rfl
      refine pure_ (i := 8) (N := some 36) (v := undef) (a' := ?_) #[true, true, true, true, true, true, true, true, true, false, false, false, false, false, false, false, false] rfl rfl (any_of HT_.out (by kernel_rfl)) (fun _ _ _ h => h) (Or.inr ⟨by rfl, rfl⟩) ?_ ?_
      rotate_left
      ·simp only [Act.put, HW.LA, HW.LZ, HW.LS, i64_w, i32_w]
       rfl
      refine pure_ (i := 9) (N := some 37) (v := undef) (a' := ?_) #[true, true, true, true, true, true, true, true, true, true, false, false, false, false, false, false, false] rfl rfl (any_of HT_.out (by kernel_rfl)) (fun _ _ _ h => h) (Or.inr ⟨by rfl, rfl⟩) ?_ ?_
      rotate_left
      ·simp only [Act.put, HW.LA, HW.LZ, HW.LS, i64_w, i32_w]
       rfl
      refine pure_ (i := 10) (N := some 38) (v := undef) (a' := ?_) #[true, true, true, true, true, true, true, true, true, true, true, false, false, false, false, false, false] rfl rfl (any_of HT_.out (by kernel_rfl)) (fun _ _ _ h => h) (Or.inr ⟨by rfl, rfl⟩) ?_ ?_
      rotate_left
      ·simp only [Act.put, HW.LA, HW.LZ, HW.LS, i64_w, i32_w]
       rfl
      refine pure_ (i := 11) (N := some 39) (v := undef) (a' := ?_) #[true, true, true, true, true, true, true, true, true, true, true, true, false, false, false, false, false] rfl rfl (any_of HT_.out (by kernel_rfl)) (fun _ _ _ h => h) (Or.inr ⟨by rfl, rfl⟩) ?_ ?_
      rotate_left
      ·simp only [Act.put, HW.LA, HW.LZ, HW.LS, i64_w, i32_w]
       rfl
      refine pure_ (i := 12) (N := some 40) (v := undef) (a' := ?_) #[true, true, true, true, true, true, true, true, true, true, true, true, true, false, false, false, false] rfl rfl (any_of HT_.out (by kernel_rfl)) (fun _ _ _ h => h) (Or.inr ⟨by rfl, rfl⟩) ?_ ?_
      rotate_left
      ·simp only [Act.put, HW.LA, HW.LZ, HW.LS, i64_w, i32_w]
       rfl
      refine pure_ (i := 13) (N := some 41) (v := undef) (a' := ?_) #[true, true, true, true, true, true, true, true, true, true, true, true, true, true, false, false, false] rfl rfl (any_of HT_.out (by kernel_rfl)) (fun _ _ _ h => h) (Or.inr ⟨by rfl, rfl⟩) ?_ ?_
      rotate_left
      ·simp only [Act.put, HW.LA, HW.LZ, HW.LS, i64_w, i32_w]
       rfl
      refine pure_ (i := 14) (N := some 42) (v := undef) (a' := ?_) #[true, true, true, true, true, true, true, true, true, true, true, true, true, true, true, false, false] rfl rfl (any_of HT_.out (by kernel_rfl)) (fun _ _ _ h => h) (Or.inr ⟨by rfl, rfl⟩) ?_ ?_
      rotate_left
      ·simp only [Act.put, HW.LA, HW.LZ, HW.LS, i64_w, i32_w]
       rfl
      refine pure_ (i := 15) (N := some 43) (v := undef) (a' := ?_) #[true, true, true, true, true, true, true, true, true, true, true, true, true, true, true, true, false] rfl rfl (any_of HT_.out (by kernel_rfl)) (fun _ _ _ h => h) (Or.inr ⟨by rfl, rfl⟩) ?_ ?_
      rotate_left
      ·simp only [Act.put, HW.LA, HW.LZ, HW.LS, i64_w, i32_w]
       rfl
      refine pure_ (i := 16) (N := some 44) (v := ?_) (a' := ?_) #[true, true, true, true, true, true, true, true, true, true, true, true, true, true, true, true, true] rfl rfl (any_of HT_.out (by kernel_rfl)) (fun _ _ _ h => h) (Or.inl ⟨by rfl, ?_⟩) ?_ ?_
      rotate_left
      ·intro w'
       go_simp
       with_reducible rfl
      rotate_left
      ·simp only [Act.put, HW.LA, HW.LZ, HW.LS, i64_w, i32_w]
       rfl
      refine done_ (done_of HT_.out (by kernel_rfl)) ?_
      try go_wp2
      go_meet
      case rel => exact ⟨_, (false), (by first | rfl | (simp; done) | (simp [*]; done)), H', ⟨by have := HJ5.out; first | omega | exact Nat.le_refl _⟩, ⟨by (with_reducible repeat (first | refine blk_drewN ?_ _ | refine blk_drew ?_ | refine blk_alloc ?_ _)); exact BK354.out⟩, ⟨by repeat (first | (with_reducible first | exact HB.out | apply below_alloc | apply pw_below_drewN | apply below_drew1 | refine below_set ?_ GE354.out) | exact HB.out)⟩⟩
    case rest =>
     clear HC17
     try clear c1
     try clear c2
     try clear p2
     try clear c12
     try clear c13
     try clear c14
     try clear c15
     try clear c16
     try clear c17
     try clear c19
     try clear c23
     obtain ⟨kq, x44_16, rfl, HA, HJ16, BK354, HB⟩ := hcut
     cases kq with
     | zero => exact absurd HA.out (by simp [phaetonlaw05_WireTells.j1])
     | succ kj16 =>
      have H := HA.out
      clear HA
      simp only [phaetonlaw05_WireTells.j1] at H
      by_cases c42 : x44_16 = true
      ·subst c42
       have H1 : (none) = some r := by rw [if_pos rfl] at H; exact H
       clear H
       have H := H1
       clear H1
       exact absurd H (by simp)
      ·replace c42 := Bool.eq_false_iff.mpr c42
       subst c42
       have H1 : ((wire_Most.f a2 (Int.tmod (wrap64 (a3)) 9)).bind fun t367 => ((phaetonref05_Most.f a2 (Int.tmod (wrap64 (a3)) 9)).bind fun t368 => (if t367 = t368 then ((phaetonref01_Right.f kj16 l1).bind fun t369 => (if t369 = true then ((wire_Read.f l1).bind fun bt370 => ((wire_Read.f l1).bind fun bt380 => ((phaetonref05_Read.f kj16 l1).bind fun bt390 => (if t355 = true then ((phaetonref04_Same.f bt370.1 bt370.2.1 bt370.2.2.1 bt370.2.2.2.1 bt370.2.2.2.2.1 bt390.1 bt390.2.1 bt390.2.2.1 bt390.2.2.2.1 bt390.2.2.2.2.1).bind fun t400 => (if t400 = true then (if bt370.2.2.2.2.2.1 = bt390.2.2.2.2.2.1 then (if bt370.2.2.2.2.2.2 = bt390.2.2.2.2.2.2 then ((phaetonref04_Same.f bt370.1 bt370.2.1 bt370.2.2.1 bt370.2.2.2.1 bt370.2.2.2.2.1 bt380.1 bt380.2.1 bt380.2.2.1 bt380.2.2.2.1 bt380.2.2.2.2.1).bind fun t401 => (if t401 = true then (if bt370.2.2.2.2.2.1 = bt380.2.2.2.2.2.1 then (if bt370.2.2.2.2.2.2 = bt380.2.2.2.2.2.2 then (some true) else (none)) else (none)) else (none))) else (none)) else (none)) else (none))) else (none))))) else (if t355 = true then (some true) else (none)))) else (none)))) = some r := by rw [if_neg (show ¬ (false = true) by decide)] at H; exact H
       clear H
       have H := H1
       clear H1
       replace H := Option.bind_eq_some_iff.mp H
       obtain ⟨t367, A430, H⟩ := H
       replace H : ((phaetonref05_Most.f a2 (Int.tmod (wrap64 (a3)) 9)).bind fun t368 => (if t367 = t368 then ((phaetonref01_Right.f kj16 l1).bind fun t369 => (if t369 = true then ((wire_Read.f l1).bind fun bt370 => ((wire_Read.f l1).bind fun bt380 => ((phaetonref05_Read.f kj16 l1).bind fun bt390 => (if t355 = true then ((phaetonref04_Same.f bt370.1 bt370.2.1 bt370.2.2.1 bt370.2.2.2.1 bt370.2.2.2.2.1 bt390.1 bt390.2.1 bt390.2.2.1 bt390.2.2.2.1 bt390.2.2.2.2.1).bind fun t400 => (if t400 = true then (if bt370.2.2.2.2.2.1 = bt390.2.2.2.2.2.1 then (if bt370.2.2.2.2.2.2 = bt390.2.2.2.2.2.2 then ((phaetonref04_Same.f bt370.1 bt370.2.1 bt370.2.2.1 bt370.2.2.2.1 bt370.2.2.2.2.1 bt380.1 bt380.2.1 bt380.2.2.1 bt380.2.2.2.1 bt380.2.2.2.2.1).bind fun t401 => (if t401 = true then (if bt370.2.2.2.2.2.1 = bt380.2.2.2.2.2.1 then (if bt370.2.2.2.2.2.2 = bt380.2.2.2.2.2.2 then (some true) else (none)) else (none)) else (none))) else (none)) else (none)) else (none))) else (none))))) else (if t355 = true then (some true) else (none)))) else (none))) = some r := H
       have A43 := Aside0.mk A430
       clear A430
       replace H := Option.bind_eq_some_iff.mp H
       obtain ⟨t368, A440, H⟩ := H
       replace H : (if t367 = t368 then ((phaetonref01_Right.f kj16 l1).bind fun t369 => (if t369 = true then ((wire_Read.f l1).bind fun bt370 => ((wire_Read.f l1).bind fun bt380 => ((phaetonref05_Read.f kj16 l1).bind fun bt390 => (if t355 = true then ((phaetonref04_Same.f bt370.1 bt370.2.1 bt370.2.2.1 bt370.2.2.2.1 bt370.2.2.2.2.1 bt390.1 bt390.2.1 bt390.2.2.1 bt390.2.2.2.1 bt390.2.2.2.2.1).bind fun t400 => (if t400 = true then (if bt370.2.2.2.2.2.1 = bt390.2.2.2.2.2.1 then (if bt370.2.2.2.2.2.2 = bt390.2.2.2.2.2.2 then ((phaetonref04_Same.f bt370.1 bt370.2.1 bt370.2.2.1 bt370.2.2.2.1 bt370.2.2.2.2.1 bt380.1 bt380.2.1 bt380.2.2.1 bt380.2.2.2.1 bt380.2.2.2.2.1).bind fun t401 => (if t401 = true then (if bt370.2.2.2.2.2.1 = bt380.2.2.2.2.2.1 then (if bt370.2.2.2.2.2.2 = bt380.2.2.2.2.2.2 then (some true) else (none)) else (none)) else (none))) else (none)) else (none)) else (none))) else (none))))) else (if t355 = true then (some true) else (none)))) else (none)) = some r := H
       have A44 := Aside0.mk A440
       clear A440
       by_cases c45 : t367 = t368
       ·rw [if_pos c45] at H
        have c45b0 : (t367 == t368) = true := beq_iff_eq.mpr c45
        have c45b1 : (t367 != t368) = false := bne_eq_false_iff_eq.mpr c45
        clear c45
        replace H := Option.bind_eq_some_iff.mp H
        obtain ⟨t369, A460, H⟩ := H
        replace H : (if t369 = true then ((wire_Read.f l1).bind fun bt370 => ((wire_Read.f l1).bind fun bt380 => ((phaetonref05_Read.f kj16 l1).bind fun bt390 => (if t355 = true then ((phaetonref04_Same.f bt370.1 bt370.2.1 bt370.2.2.1 bt370.2.2.2.1 bt370.2.2.2.2.1 bt390.1 bt390.2.1 bt390.2.2.1 bt390.2.2.2.1 bt390.2.2.2.2.1).bind fun t400 => (if t400 = true then (if bt370.2.2.2.2.2.1 = bt390.2.2.2.2.2.1 then (if bt370.2.2.2.2.2.2 = bt390.2.2.2.2.2.2 then ((phaetonref04_Same.f bt370.1 bt370.2.1 bt370.2.2.1 bt370.2.2.2.1 bt370.2.2.2.2.1 bt380.1 bt380.2.1 bt380.2.2.1 bt380.2.2.2.1 bt380.2.2.2.2.1).bind fun t401 => (if t401 = true then (if bt370.2.2.2.2.2.1 = bt380.2.2.2.2.2.1 then (if bt370.2.2.2.2.2.2 = bt380.2.2.2.2.2.2 then (some true) else (none)) else (none)) else (none))) else (none)) else (none)) else (none))) else (none))))) else (if t355 = true then (some true) else (none))) = some r := H
        have A46 := Aside0.mk A460
        clear A460
        by_cases c47 : t369 = true
        ·subst c47
         have H1 : ((wire_Read.f l1).bind fun bt370 => ((wire_Read.f l1).bind fun bt380 => ((phaetonref05_Read.f kj16 l1).bind fun bt390 => (if t355 = true then ((phaetonref04_Same.f bt370.1 bt370.2.1 bt370.2.2.1 bt370.2.2.2.1 bt370.2.2.2.2.1 bt390.1 bt390.2.1 bt390.2.2.1 bt390.2.2.2.1 bt390.2.2.2.2.1).bind fun t400 => (if t400 = true then (if bt370.2.2.2.2.2.1 = bt390.2.2.2.2.2.1 then (if bt370.2.2.2.2.2.2 = bt390.2.2.2.2.2.2 then ((phaetonref04_Same.f bt370.1 bt370.2.1 bt370.2.2.1 bt370.2.2.2.1 bt370.2.2.2.2.1 bt380.1 bt380.2.1 bt380.2.2.1 bt380.2.2.2.1 bt380.2.2.2.2.1).bind fun t401 => (if t401 = true then (if bt370.2.2.2.2.2.1 = bt380.2.2.2.2.2.1 then (if bt370.2.2.2.2.2.2 = bt380.2.2.2.2.2.2 then (some true) else (none)) else (none)) else (none))) else (none)) else (none)) else (none))) else (none))))) = some r := by rw [if_pos rfl] at H; exact H
         clear H
         have H := H1
         clear H1
         replace H := Option.bind_eq_some_iff.mp H
         obtain ⟨⟨t370, t371, t372, t373, t374, t377, t378⟩, A480, H⟩ := H
         replace H : ((wire_Read.f l1).bind fun bt380 => ((phaetonref05_Read.f kj16 l1).bind fun bt390 => (if t355 = true then ((phaetonref04_Same.f t370 t371 t372 t373 t374 bt390.1 bt390.2.1 bt390.2.2.1 bt390.2.2.2.1 bt390.2.2.2.2.1).bind fun t400 => (if t400 = true then (if t377 = bt390.2.2.2.2.2.1 then (if t378 = bt390.2.2.2.2.2.2 then ((phaetonref04_Same.f t370 t371 t372 t373 t374 bt380.1 bt380.2.1 bt380.2.2.1 bt380.2.2.2.1 bt380.2.2.2.2.1).bind fun t401 => (if t401 = true then (if t377 = bt380.2.2.2.2.2.1 then (if t378 = bt380.2.2.2.2.2.2 then (some true) else (none)) else (none)) else (none))) else (none)) else (none)) else (none))) else (none)))) = some r := H
         have A48 := Aside0.mk A480
         clear A480
         replace H := Option.bind_eq_some_iff.mp H
         obtain ⟨⟨t380, t381, t382, t383, t384, t387, t388⟩, A490, H⟩ := H
         replace H : ((phaetonref05_Read.f kj16 l1).bind fun bt390 => (if t355 = true then ((phaetonref04_Same.f t370 t371 t372 t373 t374 bt390.1 bt390.2.1 bt390.2.2.1 bt390.2.2.2.1 bt390.2.2.2.2.1).bind fun t400 => (if t400 = true then (if t377 = bt390.2.2.2.2.2.1 then (if t378 = bt390.2.2.2.2.2.2 then ((phaetonref04_Same.f t370 t371 t372 t373 t374 t380 t381 t382 t383 t384).bind fun t401 => (if t401 = true then (if t377 = t387 then (if t378 = t388 then (some true) else (none)) else (none)) else (none))) else (none)) else (none)) else (none))) else (none))) = some r := H
         have A49 := Aside0.mk A490
         clear A490
         replace H := Option.bind_eq_some_iff.mp H
         obtain ⟨⟨t390, t391, t392, t393, t394, t397, t398⟩, A500, H⟩ := H
         replace H : (if t355 = true then ((phaetonref04_Same.f t370 t371 t372 t373 t374 t390 t391 t392 t393 t394).bind fun t400 => (if t400 = true then (if t377 = t397 then (if t378 = t398 then ((phaetonref04_Same.f t370 t371 t372 t373 t374 t380 t381 t382 t383 t384).bind fun t401 => (if t401 = true then (if t377 = t387 then (if t378 = t388 then (some true) else (none)) else (none)) else (none))) else (none)) else (none)) else (none))) else (none)) = some r := H
         have A50 := Aside0.mk A500
         clear A500
         by_cases c51 : t355 = true
         ·subst c51
          have H1 : ((phaetonref04_Same.f t370 t371 t372 t373 t374 t390 t391 t392 t393 t394).bind fun t400 => (if t400 = true then (if t377 = t397 then (if t378 = t398 then ((phaetonref04_Same.f t370 t371 t372 t373 t374 t380 t381 t382 t383 t384).bind fun t401 => (if t401 = true then (if t377 = t387 then (if t378 = t388 then (some true) else (none)) else (none)) else (none))) else (none)) else (none)) else (none))) = some r := by rw [if_pos rfl] at H; exact H
          clear H
          have H := H1
          clear H1
          replace H := Option.bind_eq_some_iff.mp H
          obtain ⟨t400, A520, H⟩ := H
          replace H : (if t400 = true then (if t377 = t397 then (if t378 = t398 then ((phaetonref04_Same.f t370 t371 t372 t373 t374 t380 t381 t382 t383 t384).bind fun t401 => (if t401 = true then (if t377 = t387 then (if t378 = t388 then (some true) else (none)) else (none)) else (none))) else (none)) else (none)) else (none)) = some r := H
          have A52 := Aside0.mk A520
          clear A520
          by_cases c53 : t400 = true
          ·subst c53
           have H1 : (if t377 = t397 then (if t378 = t398 then ((phaetonref04_Same.f t370 t371 t372 t373 t374 t380 t381 t382 t383 t384).bind fun t401 => (if t401 = true then (if t377 = t387 then (if t378 = t388 then (some true) else (none)) else (none)) else (none))) else (none)) else (none)) = some r := by rw [if_pos rfl] at H; exact H
           clear H
           have H := H1
           clear H1
           by_cases c54 : t377 = t397
           ·rw [if_pos c54] at H
            have c54b0 : (t377 == t397) = true := beq_iff_eq.mpr c54
            have c54b1 : (t377 != t397) = false := bne_eq_false_iff_eq.mpr c54
            clear c54
            by_cases c55 : t378 = t398
            ·rw [if_pos c55] at H
             have c55b0 : (t378 == t398) = true := beq_iff_eq.mpr c55
             have c55b1 : (t378 != t398) = false := bne_eq_false_iff_eq.mpr c55
             clear c55
             replace H := Option.bind_eq_some_iff.mp H
             obtain ⟨t401, A560, H⟩ := H
             replace H : (if t401 = true then (if t377 = t387 then (if t378 = t388 then (some true) else (none)) else (none)) else (none)) = some r := H
             have A56 := Aside0.mk A560
             clear A560
             by_cases c57 : t401 = true
             ·subst c57
              have H1 : (if t377 = t387 then (if t378 = t388 then (some true) else (none)) else (none)) = some r := by rw [if_pos rfl] at H; exact H
              clear H
              have H := H1
              clear H1
              by_cases c58 : t377 = t387
              ·rw [if_pos c58] at H
               have c58b0 : (t377 == t387) = true := beq_iff_eq.mpr c58
               have c58b1 : (t377 != t387) = false := bne_eq_false_iff_eq.mpr c58
               clear c58
               by_cases c59 : t378 = t388
               ·rw [if_pos c59] at H
                have c59b0 : (t378 == t388) = true := beq_iff_eq.mpr c59
                have c59b1 : (t378 != t388) = false := bne_eq_false_iff_eq.mpr c59
                clear c59
                obtain rfl := Option.some.inj H
                go_wp2_with (first | ((with_reducible refine gate_store (t := 24) (p := 16) rfl ?_); refine HW.store_box5 rfl rfl 24 _ _ rfl rfl rfl BK399.out rfl (by kernel_rfl) rfl rfl rfl rfl rfl ?_; intro w1_ hw1_ hk1_; subst hw1_; have hcb399_0 := (blk_cell hk1_ 0).trans rfl; have hfb399_0 := blk_frozen hk1_ 0; have hcb399_1 := (blk_cell hk1_ 1).trans rfl; have hfb399_1 := blk_frozen hk1_ 1; have hcb399_2 := (blk_cell hk1_ 2).trans rfl; have hfb399_2 := blk_frozen hk1_ 2; have hcb399_3 := (blk_cell hk1_ 3).trans rfl; have hfb399_3 := blk_frozen hk1_ 3; have hcb399_4 := (blk_cell hk1_ 4).trans rfl; have hfb399_4 := blk_frozen hk1_ 4; clear hk1_) | ((with_reducible refine gate_store (t := 24) (p := 13) rfl ?_); refine HW.store_box5 rfl rfl 24 _ _ rfl rfl rfl BK389.out rfl (by kernel_rfl) rfl rfl rfl rfl rfl ?_; intro w1_ hw1_ hk1_; subst hw1_; have hcb389_0 := (blk_cell hk1_ 0).trans rfl; have hfb389_0 := blk_frozen hk1_ 0; have hcb389_1 := (blk_cell hk1_ 1).trans rfl; have hfb389_1 := blk_frozen hk1_ 1; have hcb389_2 := (blk_cell hk1_ 2).trans rfl; have hfb389_2 := blk_frozen hk1_ 2; have hcb389_3 := (blk_cell hk1_ 3).trans rfl; have hfb389_3 := blk_frozen hk1_ 3; have hcb389_4 := (blk_cell hk1_ 4).trans rfl; have hfb389_4 := blk_frozen hk1_ 4; clear hk1_) | ((with_reducible refine gate_store (t := 24) (p := 10) rfl ?_); refine HW.store_box5 rfl rfl 24 _ _ rfl rfl rfl BK379.out rfl (by kernel_rfl) rfl rfl rfl rfl rfl ?_; intro w1_ hw1_ hk1_; subst hw1_; have hcb379_0 := (blk_cell hk1_ 0).trans rfl; have hfb379_0 := blk_frozen hk1_ 0; have hcb379_1 := (blk_cell hk1_ 1).trans rfl; have hfb379_1 := blk_frozen hk1_ 1; have hcb379_2 := (blk_cell hk1_ 2).trans rfl; have hfb379_2 := blk_frozen hk1_ 2; have hcb379_3 := (blk_cell hk1_ 3).trans rfl; have hfb379_3 := blk_frozen hk1_ 3; have hcb379_4 := (blk_cell hk1_ 4).trans rfl; have hfb379_4 := blk_frozen hk1_ 4; clear hk1_) | ((with_reducible refine gate_store (t := 24) (p := 4) rfl ?_); refine HW.store_box5 rfl rfl 24 _ _ rfl rfl rfl BK354.out rfl (by kernel_rfl) rfl rfl rfl rfl rfl ?_; intro w1_ hw1_ hk1_; subst hw1_; have hcb354_0 := (blk_cell hk1_ 0).trans rfl; have hfb354_0 := blk_frozen hk1_ 0; have hcb354_1 := (blk_cell hk1_ 1).trans rfl; have hfb354_1 := blk_frozen hk1_ 1; have hcb354_2 := (blk_cell hk1_ 2).trans rfl; have hfb354_2 := blk_frozen hk1_ 2; have hcb354_3 := (blk_cell hk1_ 3).trans rfl; have hfb354_3 := blk_frozen hk1_ 3; have hcb354_4 := (blk_cell hk1_ 4).trans rfl; have hfb354_4 := blk_frozen hk1_ 4; clear hk1_) | ((with_reducible refine gate_callee (f := 18) rfl ?_); refine goesL_ (some 49) rfl rfl Try.func18 (by kernel_rfl) rfl #[.bool a2, .int .i64 (Int.tmod (wrap64 (a3)) 9)] rfl (by (try simp only [List.map_toArray, List.map_cons, List.map_nil]); first | done | rfl | (simp only [List.length_drop, List.length_take]; rfl)) ?_; (with_reducible refine (wire_Most.calls a2 (Int.tmod (wrap64 (a3)) 9) t367 _ A43.out).mono ?_); rintro e w' ⟨rfl, ⟨nd, rfl⟩⟩; refine ⟨_, rfl, ?_⟩; (try (rw [drewN_self wc]; generalize hq_ : World.drewN wc _ = wc; have n0_ : Aside0 (wc.heap[gb354]? = some (.cells #[.bool a0_0, .int .i64 a0_1, .bool a0_2, .int .i64 a0_3, .slice A0_4 l0_4.length c0_4] 24 (0, 0))) := ⟨by rw [← hq_]; exact (by (with_reducible repeat (first | refine blk_drewN ?_ _ | refine blk_drew ?_ | refine blk_alloc ?_ _)); exact BK354.out)⟩; have n1_ : Aside0 (Below w.heap.size w wc) := ⟨by rw [← hq_]; exact (by repeat (first | (with_reducible first | exact HB.out | apply below_alloc | apply pw_below_drewN | apply below_drew1 | refine below_set ?_ GE354.out) | exact HB.out))⟩; clear BK354 HB hq_; have BK354 := n0_; have HB := n1_; clear n0_ n1_))) | ((with_reducible refine gate_callee (f := 19) rfl ?_); refine goesL_ (some 54) rfl rfl Try.func19 (by kernel_rfl) rfl #[.bool a2, .int .i64 (Int.tmod (wrap64 (a3)) 9)] rfl (by (try simp only [List.map_toArray, List.map_cons, List.map_nil]); first | done | rfl | (simp only [List.length_drop, List.length_take]; rfl)) ?_; (with_reducible refine (phaetonref05_Most.calls a2 (Int.tmod (wrap64 (a3)) 9) t368 _ A44.out).mono ?_); rintro e w' ⟨rfl, ⟨nd, rfl⟩⟩; refine ⟨_, rfl, ?_⟩; (try (rw [drewN_self wc]; generalize hq_ : World.drewN wc _ = wc; have n0_ : Aside0 (wc.heap[gb354]? = some (.cells #[.bool a0_0, .int .i64 a0_1, .bool a0_2, .int .i64 a0_3, .slice A0_4 l0_4.length c0_4] 24 (0, 0))) := ⟨by rw [← hq_]; exact (by (with_reducible repeat (first | refine blk_drewN ?_ _ | refine blk_drew ?_ | refine blk_alloc ?_ _)); exact BK354.out)⟩; have n1_ : Aside0 (Below w.heap.size w wc) := ⟨by rw [← hq_]; exact (by repeat (first | (with_reducible first | exact HB.out | apply below_alloc | apply pw_below_drewN | apply below_drew1 | refine below_set ?_ GE354.out) | exact HB.out))⟩; clear BK354 HB hq_; have BK354 := n0_; have HB := n1_; clear n0_ n1_))) | ((with_reducible refine gate_callee (f := 20) rfl ?_); refine goesL_ (some 57) rfl rfl Try.func20 (by kernel_rfl) rfl #[.slice A1 l1.length c1] rfl (by (try simp only [List.map_toArray, List.map_cons, List.map_nil]); first | done | rfl | (simp only [List.length_drop, List.length_take]; rfl)) ?_; (with_reducible refine (phaetonref01_Right.calls kj16 _ _ l1 true _ ?side1 ?side2 A46.out).mono ?_); (case side1 => repeat (first | exact (Kd.C_below HR1.out HB.out) | (with_reducible refine Kd.C_alloc ?_ _) | (with_reducible refine Kd.C_drewN ?_ _) | (with_reducible refine Kd.C_drew ?_))); (case side2 => exact HC1.out); rintro e w' ⟨rfl, ⟨nd, rfl⟩⟩; refine ⟨_, rfl, ?_⟩; (try (rw [drewN_self wc]; generalize hq_ : World.drewN wc _ = wc; have n0_ : Aside0 (wc.heap[gb354]? = some (.cells #[.bool a0_0, .int .i64 a0_1, .bool a0_2, .int .i64 a0_3, .slice A0_4 l0_4.length c0_4] 24 (0, 0))) := ⟨by rw [← hq_]; exact (by (with_reducible repeat (first | refine blk_drewN ?_ _ | refine blk_drew ?_ | refine blk_alloc ?_ _)); exact BK354.out)⟩; have n1_ : Aside0 (Below w.heap.size w wc) := ⟨by rw [← hq_]; exact (by repeat (first | (with_reducible first | exact HB.out | apply below_alloc | apply pw_below_drewN | apply below_drew1 | refine below_set ?_ GE354.out) | exact HB.out))⟩; clear BK354 HB hq_; have BK354 := n0_; have HB := n1_; clear n0_ n1_))) | ((with_reducible refine gate_callee (f := 21) rfl ?_); refine goesL_ (some 62) rfl rfl Try.func21 (by kernel_rfl) rfl #[.slice A1 l1.length c1] rfl (by (try simp only [List.map_toArray, List.map_cons, List.map_nil]); first | done | rfl | (simp only [List.length_drop, List.length_take]; rfl)) ?_; (with_reducible refine (wire_Read.calls _ _ l1 t370 t371 t372 t373 t374 t377 t378 _ ?side1 ?side2 A48.out).mono ?_); (case side1 => repeat (first | exact (Kd.C_below HR1.out HB.out) | (with_reducible refine Kd.C_alloc ?_ _) | (with_reducible refine Kd.C_drewN ?_ _) | (with_reducible refine Kd.C_drew ?_))); (case side2 => exact HC1.out); rintro e w60 ⟨v375, rfl, ho0, hb⟩; refine ⟨_, rfl, ?_⟩; have n0_ := Aside0.mk (Kd.R_lower ho0 (below_size (by repeat (first | (with_reducible first | exact HB.out | apply below_alloc | apply pw_below_drewN | apply below_drew1 | refine below_set ?_ GE354.out) | exact HB.out)))); have n1_ := Aside0.mk (blk_below (g := gb354) (o := .cells #[.bool a0_0, .int .i64 a0_1, .bool a0_2, .int .i64 a0_3, .slice A0_4 l0_4.length c0_4] 24 (0, 0)) (by (with_reducible repeat (first | refine blk_drewN ?_ _ | refine blk_drew ?_ | refine blk_alloc ?_ _)); exact BK354.out) hb); have n2_ := Aside0.mk (below_step (by repeat (first | (with_reducible first | exact HB.out | apply below_alloc | apply pw_below_drewN | apply below_drew1 | refine below_set ?_ GE354.out) | exact HB.out)) hb); clear BK354; clear HB; have HO376 := n0_; have BK354 := n1_; have HB := n2_; clear n0_ n1_ n2_; (try clear hb); (try clear hb2); (try clear hk); (try clear hi); (try clear ho0)) | ((with_reducible refine gate_dst (N := 10) rfl ?_); (try (refine gate_guard (by rfl) ?_; dsimp only)); refine box_event ?hg (N := 10) ?hd (cs := #[.bool false, .int .i64 0, .bool false, .int .i64 0, .slice none 0 0]) (t := 24) ?hr ?_; (case hd => rfl); (case hg => rfl); (case hr => first | (go_simp; done) | (go_simp; rfl)); intro gb379 hg w61 hbox hb; have n0_ := Aside0.mk (Kd.R_below (by (with_reducible repeat (first | apply Kd.R_alloc | apply Kd.R_drewN | apply Kd.R_drew)); exact HO376.out) hb); have n1_ := Aside0.mk (blk_below (g := gb354) (o := .cells #[.bool a0_0, .int .i64 a0_1, .bool a0_2, .int .i64 a0_3, .slice A0_4 l0_4.length c0_4] 24 (0, 0)) (by (with_reducible repeat (first | refine blk_drewN ?_ _ | refine blk_drew ?_ | refine blk_alloc ?_ _)); exact BK354.out) hb); have n2_ := Aside0.mk (below_step (by repeat (first | (with_reducible first | exact HB.out | apply below_alloc | apply pw_below_drewN | apply below_drew1 | refine below_set ?_ GE354.out) | exact HB.out)) hb); have n3_ := Aside0.mk (hbox); have n4_ := Aside0.mk ((by rw [hg]; exact (below_size (by repeat (first | (with_reducible first | exact HB.out | apply below_alloc | apply pw_below_drewN | apply below_drew1 | refine below_set ?_ GE354.out) | exact HB.out))) : w.heap.size ≤ gb379)); have n5_ := Aside0.mk ((by rw [hg]; exact (below_size (by repeat (first | (with_reducible first | exact HB.out | apply below_alloc | apply pw_below_drewN | apply below_drew1 | refine below_set ?_ GE354.out) | exact HB.out))) : w.heap.size ≤ gb379)); have n6_ := Aside0.mk ((by rw [hg]; exact Nat.ne_of_lt (blk_lt (g := gb354) (o := .cells #[.bool a0_0, .int .i64 a0_1, .bool a0_2, .int .i64 a0_3, .slice A0_4 l0_4.length c0_4] 24 (0, 0)) (by (with_reducible repeat (first | refine blk_drewN ?_ _ | refine blk_drew ?_ | refine blk_alloc ?_ _)); exact BK354.out)) : gb354 ≠ gb379)); have n7_ := Aside0.mk ((by rw [hg]; exact Nat.ne_of_gt (blk_lt (g := gb354) (o := .cells #[.bool a0_0, .int .i64 a0_1, .bool a0_2, .int .i64 a0_3, .slice A0_4 l0_4.length c0_4] 24 (0, 0)) (by (with_reducible repeat (first | refine blk_drewN ?_ _ | refine blk_drew ?_ | refine blk_alloc ?_ _)); exact BK354.out)) : gb379 ≠ gb354)); clear HO376; clear BK354; clear HB; have HO376 := n0_; have BK354 := n1_; have HB := n2_; have BK379 := n3_; have GW379 := n4_; have GE379 := n5_; have NB354_379 := n6_; have NB379_354 := n7_; clear n0_ n1_ n2_ n3_ n4_ n5_ n6_ n7_; clear hb hbox hg; have hnb62 := NB379_354.out; have hnc62 := NB354_379.out; have hcz63_0 : w61.cell? ⟨gb379, 0, none⟩ = some (.bool false) := (blk_cell BK379.out 0).trans rfl; have hcz63_1 : w61.cell? ⟨gb379, 1, none⟩ = some (.int .i64 0) := (blk_cell BK379.out 1).trans rfl; have hcz63_2 : w61.cell? ⟨gb379, 2, none⟩ = some (.bool false) := (blk_cell BK379.out 2).trans rfl; have hcz63_3 : w61.cell? ⟨gb379, 3, none⟩ = some (.int .i64 0) := (blk_cell BK379.out 3).trans rfl; have hcz63_4 : w61.cell? ⟨gb379, 4, none⟩ = some (.slice none 0 0) := (blk_cell BK379.out 4).trans rfl; have hfz63_0 := blk_frozen BK379.out 0; have hfz63_1 := blk_frozen BK379.out 1; have hfz63_2 := blk_frozen BK379.out 2; have hfz63_3 := blk_frozen BK379.out 3; have hfz63_4 := blk_frozen BK379.out 4; obtain ⟨Ao64, co64, eo64⟩ := Kd.R_slice HO376.out; subst eo64) | ((with_reducible refine gate_callee (f := 21) rfl ?_); refine goesL_ (some 68) rfl rfl Try.func21 (by kernel_rfl) rfl #[.slice A1 l1.length c1] rfl (by (try simp only [List.map_toArray, List.map_cons, List.map_nil]); first | done | rfl | (simp only [List.length_drop, List.length_take]; rfl)) ?_; (with_reducible refine (wire_Read.calls _ _ l1 t380 t381 t382 t383 t384 t387 t388 _ ?side1 ?side2 A49.out).mono ?_); (case side1 => exact Kd.C_below HR1.out (by repeat (first | (with_reducible first | exact HB.out | apply below_alloc | apply pw_below_drewN | apply below_drew1 | refine below_set ?_ GE354.out | refine below_set ?_ GE379.out) | exact HB.out))); (case side2 => exact HC1.out); rintro e w65 ⟨v385, rfl, ho0, hb⟩; refine ⟨_, rfl, ?_⟩; have n0_ := Aside0.mk (Kd.R_elder' (by (with_reducible repeat (first | apply Kd.R_alloc | apply Kd.R_drewN | apply Kd.R_drew)); exact (HW.R_far5 HO376.out BK379.out (by decide))) (Kd.R_base ho0) hb); have n1_ := Aside0.mk (Kd.R_lower (Kd.R_new' ho0 (Kd.R_lt (by (with_reducible repeat (first | apply Kd.R_alloc | apply Kd.R_drewN | apply Kd.R_drew)); exact (HW.R_far5 HO376.out BK379.out (by decide))))) (below_size (by repeat (first | (with_reducible first | exact HB.out | apply below_alloc | apply pw_below_drewN | apply below_drew1 | refine below_set ?_ GE354.out | refine below_set ?_ GE379.out) | exact HB.out)))); have n2_ := Aside0.mk (blk_below (g := gb354) (o := .cells #[.bool a0_0, .int .i64 a0_1, .bool a0_2, .int .i64 a0_3, .slice A0_4 l0_4.length c0_4] 24 (0, 0)) (by (with_reducible repeat (first | refine blk_drewN ?_ _ | refine blk_drew ?_ | refine blk_alloc ?_ _)); refine HW.blk_far5 ?_ NB354_379.out; (with_reducible repeat (first | refine blk_drewN ?_ _ | refine blk_drew ?_ | refine blk_alloc ?_ _)); exact BK354.out) hb); have n3_ := Aside0.mk (blk_below (g := gb379) (o := .cells #[.bool t370, .int .i64 t371, .bool t372, .int .i64 t373, .slice Ao64 t374.length co64] 24 (0, 0)) (by (with_reducible repeat (first | refine blk_drewN ?_ _ | refine blk_drew ?_ | refine blk_alloc ?_ _)); refine HW.blk_put5 (cs := #[.bool false, .int .i64 0, .bool false, .int .i64 0, .slice none 0 0]) ?_ rfl; (with_reducible repeat (first | refine blk_drewN ?_ _ | refine blk_drew ?_ | refine blk_alloc ?_ _)); exact BK379.out) hb); have n4_ := Aside0.mk (below_step (by repeat (first | (with_reducible first | exact HB.out | apply below_alloc | apply pw_below_drewN | apply below_drew1 | refine below_set ?_ GE354.out | refine below_set ?_ GE379.out) | exact HB.out)) hb); clear HO376; clear BK354; clear BK379; clear HB; have HO376 := n0_; have HO386 := n1_; have BK354 := n2_; have BK379 := n3_; have HB := n4_; clear n0_ n1_ n2_ n3_ n4_; (try clear hb); (try clear hb2); (try clear hk); (try clear hi); (try clear ho0)) | ((with_reducible refine gate_dst (N := 13) rfl ?_); (try (refine gate_guard (by rfl) ?_; dsimp only)); refine box_event ?hg (N := 13) ?hd (cs := #[.bool false, .int .i64 0, .bool false, .int .i64 0, .slice none 0 0]) (t := 24) ?hr ?_; (case hd => rfl); (case hg => rfl); (case hr => first | (go_simp; done) | (go_simp; rfl)); intro gb389 hg w66 hbox hb; have n0_ := Aside0.mk (Kd.R_below (by (with_reducible repeat (first | apply Kd.R_alloc | apply Kd.R_drewN | apply Kd.R_drew)); exact HO376.out) hb); have n1_ := Aside0.mk (Kd.R_below (by (with_reducible repeat (first | apply Kd.R_alloc | apply Kd.R_drewN | apply Kd.R_drew)); exact HO386.out) hb); have n2_ := Aside0.mk (blk_below (g := gb354) (o := .cells #[.bool a0_0, .int .i64 a0_1, .bool a0_2, .int .i64 a0_3, .slice A0_4 l0_4.length c0_4] 24 (0, 0)) (by (with_reducible repeat (first | refine blk_drewN ?_ _ | refine blk_drew ?_ | refine blk_alloc ?_ _)); exact BK354.out) hb); have n3_ := Aside0.mk (blk_below (g := gb379) (o := .cells #[.bool t370, .int .i64 t371, .bool t372, .int .i64 t373, .slice Ao64 t374.length co64] 24 (0, 0)) (by (with_reducible repeat (first | refine blk_drewN ?_ _ | refine blk_drew ?_ | refine blk_alloc ?_ _)); exact BK379.out) hb); have n4_ := Aside0.mk (below_step (by repeat (first | (with_reducible first | exact HB.out | apply below_alloc | apply pw_below_drewN | apply below_drew1 | refine below_set ?_ GE354.out | refine below_set ?_ GE379.out) | exact HB.out)) hb); have n5_ := Aside0.mk (hbox); have n6_ := Aside0.mk ((by rw [hg]; exact (below_size (by repeat (first | (with_reducible first | exact HB.out | apply below_alloc | apply pw_below_drewN | apply below_drew1 | refine below_set ?_ GE354.out | refine below_set ?_ GE379.out) | exact HB.out))) : w.heap.size ≤ gb389)); have n7_ := Aside0.mk ((by rw [hg]; exact (below_size (by repeat (first | (with_reducible first | exact HB.out | apply below_alloc | apply pw_below_drewN | apply below_drew1 | refine below_set ?_ GE354.out | refine below_set ?_ GE379.out) | exact HB.out))) : w.heap.size ≤ gb389)); have n8_ := Aside0.mk ((by rw [hg]; exact Nat.ne_of_lt (blk_lt (g := gb354) (o := .cells #[.bool a0_0, .int .i64 a0_1, .bool a0_2, .int .i64 a0_3, .slice A0_4 l0_4.length c0_4] 24 (0, 0)) (by (with_reducible repeat (first | refine blk_drewN ?_ _ | refine blk_drew ?_ | refine blk_alloc ?_ _)); exact BK354.out)) : gb354 ≠ gb389)); have n9_ := Aside0.mk ((by rw [hg]; exact Nat.ne_of_gt (blk_lt (g := gb354) (o := .cells #[.bool a0_0, .int .i64 a0_1, .bool a0_2, .int .i64 a0_3, .slice A0_4 l0_4.length c0_4] 24 (0, 0)) (by (with_reducible repeat (first | refine blk_drewN ?_ _ | refine blk_drew ?_ | refine blk_alloc ?_ _)); exact BK354.out)) : gb389 ≠ gb354)); have n10_ := Aside0.mk ((by rw [hg]; exact Nat.ne_of_lt (blk_lt (g := gb379) (o := .cells #[.bool t370, .int .i64 t371, .bool t372, .int .i64 t373, .slice Ao64 t374.length co64] 24 (0, 0)) (by (with_reducible repeat (first | refine blk_drewN ?_ _ | refine blk_drew ?_ | refine blk_alloc ?_ _)); exact BK379.out)) : gb379 ≠ gb389)); have n11_ := Aside0.mk ((by rw [hg]; exact Nat.ne_of_gt (blk_lt (g := gb379) (o := .cells #[.bool t370, .int .i64 t371, .bool t372, .int .i64 t373, .slice Ao64 t374.length co64] 24 (0, 0)) (by (with_reducible repeat (first | refine blk_drewN ?_ _ | refine blk_drew ?_ | refine blk_alloc ?_ _)); exact BK379.out)) : gb389 ≠ gb379)); clear HO376; clear HO386; clear BK354; clear BK379; clear HB; have HO376 := n0_; have HO386 := n1_; have BK354 := n2_; have BK379 := n3_; have HB := n4_; have BK389 := n5_; have GW389 := n6_; have GE389 := n7_; have NB354_389 := n8_; have NB389_354 := n9_; have NB379_389 := n10_; have NB389_379 := n11_; clear n0_ n1_ n2_ n3_ n4_ n5_ n6_ n7_ n8_ n9_ n10_ n11_; clear hb hbox hg; have hnb67 := NB389_354.out; have hnc67 := NB354_389.out; have hnb68 := NB389_379.out; have hnc68 := NB379_389.out; have hcz69_0 : w66.cell? ⟨gb389, 0, none⟩ = some (.bool false) := (blk_cell BK389.out 0).trans rfl; have hcz69_1 : w66.cell? ⟨gb389, 1, none⟩ = some (.int .i64 0) := (blk_cell BK389.out 1).trans rfl; have hcz69_2 : w66.cell? ⟨gb389, 2, none⟩ = some (.bool false) := (blk_cell BK389.out 2).trans rfl; have hcz69_3 : w66.cell? ⟨gb389, 3, none⟩ = some (.int .i64 0) := (blk_cell BK389.out 3).trans rfl; have hcz69_4 : w66.cell? ⟨gb389, 4, none⟩ = some (.slice none 0 0) := (blk_cell BK389.out 4).trans rfl; have hfz69_0 := blk_frozen BK389.out 0; have hfz69_1 := blk_frozen BK389.out 1; have hfz69_2 := blk_frozen BK389.out 2; have hfz69_3 := blk_frozen BK389.out 3; have hfz69_4 := blk_frozen BK389.out 4; obtain ⟨Ao70, co70, eo70⟩ := Kd.R_slice HO386.out; subst eo70) | ((with_reducible refine gate_callee (f := 22) rfl ?_); refine goesL_ (some 74) rfl rfl Try.func22 (by kernel_rfl) rfl #[.slice A1 l1.length c1] rfl (by (try simp only [List.map_toArray, List.map_cons, List.map_nil]); first | done | rfl | (simp only [List.length_drop, List.length_take]; rfl)) ?_; (with_reducible refine (phaetonref05_Read.calls kj16 _ _ l1 t390 t391 t392 t393 t394 t397 t398 _ ?side1 ?side2 A50.out).mono ?_); (case side1 => exact Kd.C_below HR1.out (by repeat (first | (with_reducible first | exact HB.out | apply below_alloc | apply pw_below_drewN | apply below_drew1 | refine below_set ?_ GE354.out | refine below_set ?_ GE379.out | refine below_set ?_ GE389.out) | exact HB.out))); (case side2 => exact HC1.out); rintro e w71 ⟨v395, rfl, ho0, hb⟩; refine ⟨_, rfl, ?_⟩; have n0_ := Aside0.mk (Kd.R_elder' (by (with_reducible repeat (first | apply Kd.R_alloc | apply Kd.R_drewN | apply Kd.R_drew)); exact (HW.R_far5 HO376.out BK389.out (by decide))) (Kd.R_base ho0) hb); have n1_ := Aside0.mk (Kd.R_elder' (by (with_reducible repeat (first | apply Kd.R_alloc | apply Kd.R_drewN | apply Kd.R_drew)); exact (HW.R_far5 HO386.out BK389.out (by decide))) (Kd.R_base ho0) hb); have n2_ := Aside0.mk (Kd.R_lower (Kd.R_new' (Kd.R_new' ho0 (Kd.R_lt (by (with_reducible repeat (first | apply Kd.R_alloc | apply Kd.R_drewN | apply Kd.R_drew)); exact (HW.R_far5 HO376.out BK389.out (by decide))))) (Kd.R_lt (by (with_reducible repeat (first | apply Kd.R_alloc | apply Kd.R_drewN | apply Kd.R_drew)); exact (HW.R_far5 HO386.out BK389.out (by decide))))) (below_size (by repeat (first | (with_reducible first | exact HB.out | apply below_alloc | apply pw_below_drewN | apply below_drew1 | refine below_set ?_ GE354.out | refine below_set ?_ GE379.out | refine below_set ?_ GE389.out) | exact HB.out)))); have n3_ := Aside0.mk (blk_below (g := gb354) (o := .cells #[.bool a0_0, .int .i64 a0_1, .bool a0_2, .int .i64 a0_3, .slice A0_4 l0_4.length c0_4] 24 (0, 0)) (by (with_reducible repeat (first | refine blk_drewN ?_ _ | refine blk_drew ?_ | refine blk_alloc ?_ _)); refine HW.blk_far5 ?_ NB354_389.out; (with_reducible repeat (first | refine blk_drewN ?_ _ | refine blk_drew ?_ | refine blk_alloc ?_ _)); exact BK354.out) hb); have n4_ := Aside0.mk (blk_below (g := gb379) (o := .cells #[.bool t370, .int .i64 t371, .bool t372, .int .i64 t373, .slice Ao64 t374.length co64] 24 (0, 0)) (by (with_reducible repeat (first | refine blk_drewN ?_ _ | refine blk_drew ?_ | refine blk_alloc ?_ _)); refine HW.blk_far5 ?_ NB379_389.out; (with_reducible repeat (first | refine blk_drewN ?_ _ | refine blk_drew ?_ | refine blk_alloc ?_ _)); exact BK379.out) hb); have n5_ := Aside0.mk (blk_below (g := gb389) (o := .cells #[.bool t380, .int .i64 t381, .bool t382, .int .i64 t383, .slice Ao70 t384.length co70] 24 (0, 0)) (by (with_reducible repeat (first | refine blk_drewN ?_ _ | refine blk_drew ?_ | refine blk_alloc ?_ _)); refine HW.blk_put5 (cs := #[.bool false, .int .i64 0, .bool false, .int .i64 0, .slice none 0 0]) ?_ rfl; (with_reducible repeat (first | refine blk_drewN ?_ _ | refine blk_drew ?_ | refine blk_alloc ?_ _)); exact BK389.out) hb); have n6_ := Aside0.mk (below_step (by repeat (first | (with_reducible first | exact HB.out | apply below_alloc | apply pw_below_drewN | apply below_drew1 | refine below_set ?_ GE354.out | refine below_set ?_ GE379.out | refine below_set ?_ GE389.out) | exact HB.out)) hb); clear HO376; clear HO386; clear BK354; clear BK379; clear BK389; clear HB; have HO376 := n0_; have HO386 := n1_; have HO396 := n2_; have BK354 := n3_; have BK379 := n4_; have BK389 := n5_; have HB := n6_; clear n0_ n1_ n2_ n3_ n4_ n5_ n6_; (try clear hb); (try clear hb2); (try clear hk); (try clear hi); (try clear ho0)) | ((with_reducible refine gate_dst (N := 16) rfl ?_); (try (refine gate_guard (by rfl) ?_; dsimp only)); refine box_event ?hg (N := 16) ?hd (cs := #[.bool false, .int .i64 0, .bool false, .int .i64 0, .slice none 0 0]) (t := 24) ?hr ?_; (case hd => rfl); (case hg => rfl); (case hr => first | (go_simp; done) | (go_simp; rfl)); intro gb399 hg w72 hbox hb; have n0_ := Aside0.mk (Kd.R_below (by (with_reducible repeat (first | apply Kd.R_alloc | apply Kd.R_drewN | apply Kd.R_drew)); exact HO376.out) hb); have n1_ := Aside0.mk (Kd.R_below (by (with_reducible repeat (first | apply Kd.R_alloc | apply Kd.R_drewN | apply Kd.R_drew)); exact HO386.out) hb); have n2_ := Aside0.mk (Kd.R_below (by (with_reducible repeat (first | apply Kd.R_alloc | apply Kd.R_drewN | apply Kd.R_drew)); exact HO396.out) hb); have n3_ := Aside0.mk (blk_below (g := gb354) (o := .cells #[.bool a0_0, .int .i64 a0_1, .bool a0_2, .int .i64 a0_3, .slice A0_4 l0_4.length c0_4] 24 (0, 0)) (by (with_reducible repeat (first | refine blk_drewN ?_ _ | refine blk_drew ?_ | refine blk_alloc ?_ _)); exact BK354.out) hb); have n4_ := Aside0.mk (blk_below (g := gb379) (o := .cells #[.bool t370, .int .i64 t371, .bool t372, .int .i64 t373, .slice Ao64 t374.length co64] 24 (0, 0)) (by (with_reducible repeat (first | refine blk_drewN ?_ _ | refine blk_drew ?_ | refine blk_alloc ?_ _)); exact BK379.out) hb); have n5_ := Aside0.mk (blk_below (g := gb389) (o := .cells #[.bool t380, .int .i64 t381, .bool t382, .int .i64 t383, .slice Ao70 t384.length co70] 24 (0, 0)) (by (with_reducible repeat (first | refine blk_drewN ?_ _ | refine blk_drew ?_ | refine blk_alloc ?_ _)); exact BK389.out) hb); have n6_ := Aside0.mk (below_step (by repeat (first | (with_reducible first | exact HB.out | apply below_alloc | apply pw_below_drewN | apply below_drew1 | refine below_set ?_ GE354.out | refine below_set ?_ GE379.out | refine below_set ?_ GE389.out) | exact HB.out)) hb); have n7_ := Aside0.mk (hbox); have n8_ := Aside0.mk ((by rw [hg]; exact (below_size (by repeat (first | (with_reducible first | exact HB.out | apply below_alloc | apply pw_below_drewN | apply below_drew1 | refine below_set ?_ GE354.out | refine below_set ?_ GE379.out | refine below_set ?_ GE389.out) | exact HB.out))) : w.heap.size ≤ gb399)); have n9_ := Aside0.mk ((by rw [hg]; exact (below_size (by repeat (first | (with_reducible first | exact HB.out | apply below_alloc | apply pw_below_drewN | apply below_drew1 | refine below_set ?_ GE354.out | refine below_set ?_ GE379.out | refine below_set ?_ GE389.out) | exact HB.out))) : w.heap.size ≤ gb399)); have n10_ := Aside0.mk ((by rw [hg]; exact Nat.ne_of_lt (blk_lt (g := gb354) (o := .cells #[.bool a0_0, .int .i64 a0_1, .bool a0_2, .int .i64 a0_3, .slice A0_4 l0_4.length c0_4] 24 (0, 0)) (by (with_reducible repeat (first | refine blk_drewN ?_ _ | refine blk_drew ?_ | refine blk_alloc ?_ _)); exact BK354.out)) : gb354 ≠ gb399)); have n11_ := Aside0.mk ((by rw [hg]; exact Nat.ne_of_gt (blk_lt (g := gb354) (o := .cells #[.bool a0_0, .int .i64 a0_1, .bool a0_2, .int .i64 a0_3, .slice A0_4 l0_4.length c0_4] 24 (0, 0)) (by (with_reducible repeat (first | refine blk_drewN ?_ _ | refine blk_drew ?_ | refine blk_alloc ?_ _)); exact BK354.out)) : gb399 ≠ gb354)); have n12_ := Aside0.mk ((by rw [hg]; exact Nat.ne_of_lt (blk_lt (g := gb379) (o := .cells #[.bool t370, .int .i64 t371, .bool t372, .int .i64 t373, .slice Ao64 t374.length co64] 24 (0, 0)) (by (with_reducible repeat (first | refine blk_drewN ?_ _ | refine blk_drew ?_ | refine blk_alloc ?_ _)); exact BK379.out)) : gb379 ≠ gb399)); have n13_ := Aside0.mk ((by rw [hg]; exact Nat.ne_of_gt (blk_lt (g := gb379) (o := .cells #[.bool t370, .int .i64 t371, .bool t372, .int .i64 t373, .slice Ao64 t374.length co64] 24 (0, 0)) (by (with_reducible repeat (first | refine blk_drewN ?_ _ | refine blk_drew ?_ | refine blk_alloc ?_ _)); exact BK379.out)) : gb399 ≠ gb379)); have n14_ := Aside0.mk ((by rw [hg]; exact Nat.ne_of_lt (blk_lt (g := gb389) (o := .cells #[.bool t380, .int .i64 t381, .bool t382, .int .i64 t383, .slice Ao70 t384.length co70] 24 (0, 0)) (by (with_reducible repeat (first | refine blk_drewN ?_ _ | refine blk_drew ?_ | refine blk_alloc ?_ _)); exact BK389.out)) : gb389 ≠ gb399)); have n15_ := Aside0.mk ((by rw [hg]; exact Nat.ne_of_gt (blk_lt (g := gb389) (o := .cells #[.bool t380, .int .i64 t381, .bool t382, .int .i64 t383, .slice Ao70 t384.length co70] 24 (0, 0)) (by (with_reducible repeat (first | refine blk_drewN ?_ _ | refine blk_drew ?_ | refine blk_alloc ?_ _)); exact BK389.out)) : gb399 ≠ gb389)); clear HO376; clear HO386; clear HO396; clear BK354; clear BK379; clear BK389; clear HB; have HO376 := n0_; have HO386 := n1_; have HO396 := n2_; have BK354 := n3_; have BK379 := n4_; have BK389 := n5_; have HB := n6_; have BK399 := n7_; have GW399 := n8_; have GE399 := n9_; have NB354_399 := n10_; have NB399_354 := n11_; have NB379_399 := n12_; have NB399_379 := n13_; have NB389_399 := n14_; have NB399_389 := n15_; clear n0_ n1_ n2_ n3_ n4_ n5_ n6_ n7_ n8_ n9_ n10_ n11_ n12_ n13_ n14_ n15_; clear hb hbox hg; have hnb73 := NB399_354.out; have hnc73 := NB354_399.out; have hnb74 := NB399_379.out; have hnc74 := NB379_399.out; have hnb75 := NB399_389.out; have hnc75 := NB389_399.out; have hcz76_0 : w72.cell? ⟨gb399, 0, none⟩ = some (.bool false) := (blk_cell BK399.out 0).trans rfl; have hcz76_1 : w72.cell? ⟨gb399, 1, none⟩ = some (.int .i64 0) := (blk_cell BK399.out 1).trans rfl; have hcz76_2 : w72.cell? ⟨gb399, 2, none⟩ = some (.bool false) := (blk_cell BK399.out 2).trans rfl; have hcz76_3 : w72.cell? ⟨gb399, 3, none⟩ = some (.int .i64 0) := (blk_cell BK399.out 3).trans rfl; have hcz76_4 : w72.cell? ⟨gb399, 4, none⟩ = some (.slice none 0 0) := (blk_cell BK399.out 4).trans rfl; have hfz76_0 := blk_frozen BK399.out 0; have hfz76_1 := blk_frozen BK399.out 1; have hfz76_2 := blk_frozen BK399.out 2; have hfz76_3 := blk_frozen BK399.out 3; have hfz76_4 := blk_frozen BK399.out 4; obtain ⟨Ao77, co77, eo77⟩ := Kd.R_slice HO396.out; subst eo77; have hcz78_0 : w72.cell? ⟨gb379, 0, none⟩ = some (.bool t370) := (blk_cell BK379.out 0).trans rfl; have hcz78_1 : w72.cell? ⟨gb379, 1, none⟩ = some (.int .i64 t371) := (blk_cell BK379.out 1).trans rfl; have hcz78_2 : w72.cell? ⟨gb379, 2, none⟩ = some (.bool t372) := (blk_cell BK379.out 2).trans rfl; have hcz78_3 : w72.cell? ⟨gb379, 3, none⟩ = some (.int .i64 t373) := (blk_cell BK379.out 3).trans rfl; have hcz78_4 : w72.cell? ⟨gb379, 4, none⟩ = some (.slice Ao64 t374.length co64) := (blk_cell BK379.out 4).trans rfl; have hfz78_0 := blk_frozen BK379.out 0; have hfz78_1 := blk_frozen BK379.out 1; have hfz78_2 := blk_frozen BK379.out 2; have hfz78_3 := blk_frozen BK379.out 3; have hfz78_4 := blk_frozen BK379.out 4) | (go_at_call 23; (with_reducible refine (phaetonref04_Same.calls t370 t371 t372 t373 _ _ t374 t390 t391 t392 t393 _ _ t394 true _ ?side1 ?side2 ?side3 ?side4 A52.out).mono ?_); (case side1 => refine (Kd.R_reads' (e := 5) (base := w.heap.size) (ok := fun k_ => ((True ∧ some k_ ≠ (.slice Ao70 t384.length co70 : Value).ownBlock) ∧ some k_ ≠ (.slice Ao77 t394.length co77 : Value).ownBlock)) (n := t374.length) (c := co64) ?_).2.2; exact (by (with_reducible repeat (first | apply Kd.R_alloc | apply Kd.R_drewN | apply Kd.R_drew)); exact (HW.R_far5 HO376.out BK399.out (by decide)))); (case side2 => exact (Kd.R_reads' HO376.out).2.1); (case side3 => refine (Kd.R_reads' (e := 5) (base := w.heap.size) (ok := fun k_ => ((True ∧ some k_ ≠ (.slice Ao64 t374.length co64 : Value).ownBlock) ∧ some k_ ≠ (.slice Ao70 t384.length co70 : Value).ownBlock)) (n := t394.length) (c := co77) ?_).2.2; exact (by (with_reducible repeat (first | apply Kd.R_alloc | apply Kd.R_drewN | apply Kd.R_drew)); exact (HW.R_far5 HO396.out BK399.out (by decide)))); (case side4 => exact (Kd.R_reads' HO396.out).2.1); rintro e w79 ⟨rfl, hb⟩; have n0_ := Aside0.mk (Kd.R_below (by (with_reducible repeat (first | apply Kd.R_alloc | apply Kd.R_drewN | apply Kd.R_drew)); exact (HW.R_far5 HO376.out BK399.out (by decide))) hb); have n1_ := Aside0.mk (Kd.R_below (by (with_reducible repeat (first | apply Kd.R_alloc | apply Kd.R_drewN | apply Kd.R_drew)); exact (HW.R_far5 HO386.out BK399.out (by decide))) hb); have n2_ := Aside0.mk (Kd.R_below (by (with_reducible repeat (first | apply Kd.R_alloc | apply Kd.R_drewN | apply Kd.R_drew)); exact (HW.R_far5 HO396.out BK399.out (by decide))) hb); have n3_ := Aside0.mk (blk_below (g := gb354) (o := .cells #[.bool a0_0, .int .i64 a0_1, .bool a0_2, .int .i64 a0_3, .slice A0_4 l0_4.length c0_4] 24 (0, 0)) (by (with_reducible repeat (first | refine blk_drewN ?_ _ | refine blk_drew ?_ | refine blk_alloc ?_ _)); refine HW.blk_far5 ?_ NB354_399.out; (with_reducible repeat (first | refine blk_drewN ?_ _ | refine blk_drew ?_ | refine blk_alloc ?_ _)); exact BK354.out) hb); have n4_ := Aside0.mk (blk_below (g := gb379) (o := .cells #[.bool t370, .int .i64 t371, .bool t372, .int .i64 t373, .slice Ao64 t374.length co64] 24 (0, 0)) (by (with_reducible repeat (first | refine blk_drewN ?_ _ | refine blk_drew ?_ | refine blk_alloc ?_ _)); refine HW.blk_far5 ?_ NB379_399.out; (with_reducible repeat (first | refine blk_drewN ?_ _ | refine blk_drew ?_ | refine blk_alloc ?_ _)); exact BK379.out) hb); have n5_ := Aside0.mk (blk_below (g := gb389) (o := .cells #[.bool t380, .int .i64 t381, .bool t382, .int .i64 t383, .slice Ao70 t384.length co70] 24 (0, 0)) (by (with_reducible repeat (first | refine blk_drewN ?_ _ | refine blk_drew ?_ | refine blk_alloc ?_ _)); refine HW.blk_far5 ?_ NB389_399.out; (with_reducible repeat (first | refine blk_drewN ?_ _ | refine blk_drew ?_ | refine blk_alloc ?_ _)); exact BK389.out) hb); have n6_ := Aside0.mk (blk_below (g := gb399) (o := .cells #[.bool t390, .int .i64 t391, .bool t392, .int .i64 t393, .slice Ao77 t394.length co77] 24 (0, 0)) (by (with_reducible repeat (first | refine blk_drewN ?_ _ | refine blk_drew ?_ | refine blk_alloc ?_ _)); refine HW.blk_put5 (cs := #[.bool false, .int .i64 0, .bool false, .int .i64 0, .slice none 0 0]) ?_ rfl; (with_reducible repeat (first | refine blk_drewN ?_ _ | refine blk_drew ?_ | refine blk_alloc ?_ _)); exact BK399.out) hb); have n7_ := Aside0.mk (below_step (by repeat (first | (with_reducible first | exact HB.out | apply below_alloc | apply pw_below_drewN | apply below_drew1 | refine below_set ?_ GE354.out | refine below_set ?_ GE379.out | refine below_set ?_ GE389.out | refine below_set ?_ GE399.out) | exact HB.out)) hb); clear HO376; clear HO386; clear HO396; clear BK354; clear BK379; clear BK389; clear BK399; clear HB; have HO376 := n0_; have HO386 := n1_; have HO396 := n2_; have BK354 := n3_; have BK379 := n4_; have BK389 := n5_; have BK399 := n6_; have HB := n7_; clear n0_ n1_ n2_ n3_ n4_ n5_ n6_ n7_; (try clear hb); (try clear hb2); (try clear hk); (try clear hi); have hcz80_0 : w79.cell? ⟨gb379, 0, none⟩ = some (.bool t370) := (blk_cell BK379.out 0).trans rfl; have hcz80_1 : w79.cell? ⟨gb379, 1, none⟩ = some (.int .i64 t371) := (blk_cell BK379.out 1).trans rfl; have hcz80_2 : w79.cell? ⟨gb379, 2, none⟩ = some (.bool t372) := (blk_cell BK379.out 2).trans rfl; have hcz80_3 : w79.cell? ⟨gb379, 3, none⟩ = some (.int .i64 t373) := (blk_cell BK379.out 3).trans rfl; have hcz80_4 : w79.cell? ⟨gb379, 4, none⟩ = some (.slice Ao64 t374.length co64) := (blk_cell BK379.out 4).trans rfl; have hfz80_0 := blk_frozen BK379.out 0; have hfz80_1 := blk_frozen BK379.out 1; have hfz80_2 := blk_frozen BK379.out 2; have hfz80_3 := blk_frozen BK379.out 3; have hfz80_4 := blk_frozen BK379.out 4; have hcz81_0 : w79.cell? ⟨gb389, 0, none⟩ = some (.bool t380) := (blk_cell BK389.out 0).trans rfl; have hcz81_1 : w79.cell? ⟨gb389, 1, none⟩ = some (.int .i64 t381) := (blk_cell BK389.out 1).trans rfl; have hcz81_2 : w79.cell? ⟨gb389, 2, none⟩ = some (.bool t382) := (blk_cell BK389.out 2).trans rfl; have hcz81_3 : w79.cell? ⟨gb389, 3, none⟩ = some (.int .i64 t383) := (blk_cell BK389.out 3).trans rfl; have hcz81_4 : w79.cell? ⟨gb389, 4, none⟩ = some (.slice Ao70 t384.length co70) := (blk_cell BK389.out 4).trans rfl; have hfz81_0 := blk_frozen BK389.out 0; have hfz81_1 := blk_frozen BK389.out 1; have hfz81_2 := blk_frozen BK389.out 2; have hfz81_3 := blk_frozen BK389.out 3; have hfz81_4 := blk_frozen BK389.out 4) | (go_at_call 23; (with_reducible refine (phaetonref04_Same.calls t370 t371 t372 t373 _ _ t374 t380 t381 t382 t383 _ _ t384 true _ ?side1 ?side2 ?side3 ?side4 A56.out).mono ?_); (case side1 => repeat (first | exact (Kd.R_reads' HO376.out).2.2 | (with_reducible refine Kd.C_alloc ?_ _) | (with_reducible refine Kd.C_drewN ?_ _) | (with_reducible refine Kd.C_drew ?_))); (case side2 => exact (Kd.R_reads' HO376.out).2.1); (case side3 => repeat (first | exact (Kd.R_reads' HO386.out).2.2 | (with_reducible refine Kd.C_alloc ?_ _) | (with_reducible refine Kd.C_drewN ?_ _) | (with_reducible refine Kd.C_drew ?_))); (case side4 => exact (Kd.R_reads' HO386.out).2.1); rintro e w82 ⟨rfl, hb⟩; have n0_ := Aside0.mk (Kd.R_below (by (with_reducible repeat (first | apply Kd.R_alloc | apply Kd.R_drewN | apply Kd.R_drew)); exact HO376.out) hb); have n1_ := Aside0.mk (Kd.R_below (by (with_reducible repeat (first | apply Kd.R_alloc | apply Kd.R_drewN | apply Kd.R_drew)); exact HO386.out) hb); have n2_ := Aside0.mk (Kd.R_below (by (with_reducible repeat (first | apply Kd.R_alloc | apply Kd.R_drewN | apply Kd.R_drew)); exact HO396.out) hb); have n3_ := Aside0.mk (blk_below (g := gb354) (o := .cells #[.bool a0_0, .int .i64 a0_1, .bool a0_2, .int .i64 a0_3, .slice A0_4 l0_4.length c0_4] 24 (0, 0)) (by (with_reducible repeat (first | refine blk_drewN ?_ _ | refine blk_drew ?_ | refine blk_alloc ?_ _)); exact BK354.out) hb); have n4_ := Aside0.mk (blk_below (g := gb379) (o := .cells #[.bool t370, .int .i64 t371, .bool t372, .int .i64 t373, .slice Ao64 t374.length co64] 24 (0, 0)) (by (with_reducible repeat (first | refine blk_drewN ?_ _ | refine blk_drew ?_ | refine blk_alloc ?_ _)); exact BK379.out) hb); have n5_ := Aside0.mk (blk_below (g := gb389) (o := .cells #[.bool t380, .int .i64 t381, .bool t382, .int .i64 t383, .slice Ao70 t384.length co70] 24 (0, 0)) (by (with_reducible repeat (first | refine blk_drewN ?_ _ | refine blk_drew ?_ | refine blk_alloc ?_ _)); exact BK389.out) hb); have n6_ := Aside0.mk (blk_below (g := gb399) (o := .cells #[.bool t390, .int .i64 t391, .bool t392, .int .i64 t393, .slice Ao77 t394.length co77] 24 (0, 0)) (by (with_reducible repeat (first | refine blk_drewN ?_ _ | refine blk_drew ?_ | refine blk_alloc ?_ _)); exact BK399.out) hb); have n7_ := Aside0.mk (below_step (by repeat (first | (with_reducible first | exact HB.out | apply below_alloc | apply pw_below_drewN | apply below_drew1 | refine below_set ?_ GE354.out | refine below_set ?_ GE379.out | refine below_set ?_ GE389.out | refine below_set ?_ GE399.out) | exact HB.out)) hb); clear HO376; clear HO386; clear HO396; clear BK354; clear BK379; clear BK389; clear BK399; clear HB; have HO376 := n0_; have HO386 := n1_; have HO396 := n2_; have BK354 := n3_; have BK379 := n4_; have BK389 := n5_; have BK399 := n6_; have HB := n7_; clear n0_ n1_ n2_ n3_ n4_ n5_ n6_ n7_; (try clear hb); (try clear hb2); (try clear hk); (try clear hi)))
                go_ret
                exact ⟨by first | rfl | (simp [errW_none, errW_some] <;> rfl) | (simp [*, errW_none, errW_some] <;> rfl), by repeat (first | (with_reducible first | exact HB.out | apply below_alloc | apply pw_below_drewN | apply below_drew1 | refine below_set ?_ GE354.out | refine below_set ?_ GE379.out | refine below_set ?_ GE389.out | refine below_set ?_ GE399.out) | exact HB.out)⟩
               ·rw [if_neg c59] at H
                exact absurd H (by simp)
              ·rw [if_neg c58] at H
               exact absurd H (by simp)
             ·replace c57 := Bool.eq_false_iff.mpr c57
              subst c57
              have H1 : (none) = some r := by rw [if_neg (show ¬ (false = true) by decide)] at H; exact H
              clear H
              have H := H1
              clear H1
              exact absurd H (by simp)
            ·rw [if_neg c55] at H
             exact absurd H (by simp)
           ·rw [if_neg c54] at H
            exact absurd H (by simp)
          ·replace c53 := Bool.eq_false_iff.mpr c53
           subst c53
           have H1 : (none) = some r := by rw [if_neg (show ¬ (false = true) by decide)] at H; exact H
           clear H
           have H := H1
           clear H1
           exact absurd H (by simp)
         ·replace c51 := Bool.eq_false_iff.mpr c51
          subst c51
          have H1 : (none) = some r := by rw [if_neg (show ¬ (false = true) by decide)] at H; exact H
          clear H
          have H := H1
          clear H1
          exact absurd H (by simp)
        ·replace c47 := Bool.eq_false_iff.mpr c47
         subst c47
         have H1 : (if t355 = true then (some true) else (none)) = some r := by rw [if_neg (show ¬ (false = true) by decide)] at H; exact H
         clear H
         have H := H1
         clear H1
         by_cases c83 : t355 = true
         ·subst c83
          have H1 : (some true) = some r := by rw [if_pos rfl] at H; exact H
          clear H
          have H := H1
          clear H1
          obtain rfl := Option.some.inj H
          go_wp2_with (first | ((with_reducible refine gate_callee (f := 18) rfl ?_); refine goesL_ (some 49) rfl rfl Try.func18 (by kernel_rfl) rfl #[.bool a2, .int .i64 (Int.tmod (wrap64 (a3)) 9)] rfl (by (try simp only [List.map_toArray, List.map_cons, List.map_nil]); first | done | rfl | (simp only [List.length_drop, List.length_take]; rfl)) ?_; (with_reducible refine (wire_Most.calls a2 (Int.tmod (wrap64 (a3)) 9) t367 _ A43.out).mono ?_); rintro e w' ⟨rfl, ⟨nd, rfl⟩⟩; refine ⟨_, rfl, ?_⟩) | ((with_reducible refine gate_callee (f := 19) rfl ?_); refine goesL_ (some 54) rfl rfl Try.func19 (by kernel_rfl) rfl #[.bool a2, .int .i64 (Int.tmod (wrap64 (a3)) 9)] rfl (by (try simp only [List.map_toArray, List.map_cons, List.map_nil]); first | done | rfl | (simp only [List.length_drop, List.length_take]; rfl)) ?_; (with_reducible refine (phaetonref05_Most.calls a2 (Int.tmod (wrap64 (a3)) 9) t368 _ A44.out).mono ?_); rintro e w' ⟨rfl, ⟨nd, rfl⟩⟩; refine ⟨_, rfl, ?_⟩) | ((with_reducible refine gate_callee (f := 20) rfl ?_); refine goesL_ (some 57) rfl rfl Try.func20 (by kernel_rfl) rfl #[.slice A1 l1.length c1] rfl (by (try simp only [List.map_toArray, List.map_cons, List.map_nil]); first | done | rfl | (simp only [List.length_drop, List.length_take]; rfl)) ?_; (with_reducible refine (phaetonref01_Right.calls kj16 _ _ l1 false _ ?side1 ?side2 A46.out).mono ?_); (case side1 => repeat (first | exact (Kd.C_below HR1.out (by repeat (first | (with_reducible first | exact HB.out | apply below_alloc | apply pw_below_drewN | apply below_drew1 | refine below_set ?_ GE354.out) | exact HB.out))) | (with_reducible refine Kd.C_alloc ?_ _) | (with_reducible refine Kd.C_drewN ?_ _) | (with_reducible refine Kd.C_drew ?_))); (case side2 => exact HC1.out); rintro e w' ⟨rfl, ⟨nd, rfl⟩⟩; refine ⟨_, rfl, ?_⟩))
          go_ret
          exact ⟨by first | rfl | (simp [errW_none, errW_some] <;> rfl) | (simp [*, errW_none, errW_some] <;> rfl), by repeat (first | (with_reducible first | exact HB.out | apply below_alloc | apply pw_below_drewN | apply below_drew1 | refine below_set ?_ GE354.out) | exact HB.out)⟩
         ·replace c83 := Bool.eq_false_iff.mpr c83
          subst c83
          have H1 : (none) = some r := by rw [if_neg (show ¬ (false = true) by decide)] at H; exact H
          clear H
          have H := H1
          clear H1
          exact absurd H (by simp)
       ·rw [if_neg c45] at H
        exact absurd H (by simp)

/-- THE ONE PURE STATEMENT of phaetonlaw05_WireTells. -/
def phaetonlaw05_WireTells.Pure : Prop := ∀ (a0_0 : Bool) (a0_1 : Int) (a0_2 : Bool) (a0_3 : Int) (l0_4 : List Int) (l1 : List Int) (a2 : Bool) (a3 : Int), (Lit.int .i64 a0_1).wf = true → (Lit.int .i64 a0_3).wf = true → l0_4.length ≤ maxLen → (∀ x ∈ l0_4, (fun (x : Int) => (Lit.int .u8 x).wf = true) x) → l1.length ≤ maxLen → l1.length * 8 ≤ 140737488351232 → (∀ x ∈ l1, (fun (x : Int) => (Lit.int .i64 x).wf = true) x) → (Lit.int .u8 a3).wf = true → ∃ k, phaetonlaw05_WireTells.f k a0_0 a0_1 a0_2 a0_3 l0_4 l1 a2 a3 = some true
theorem phaetonlaw05_WireTells.walk (P : phaetonlaw05_WireTells.Pure) (a0_0 : Bool) (a0_1 : Int) (a0_2 : Bool) (a0_3 : Int) (A0_4 : Option Addr) (c0_4 : Nat) (l0_4 : List Int) (A1 : Option Addr) (c1 : Nat) (l1 : List Int) (a2 : Bool) (a3 : Int) (w : World) (hw0_1 : (Lit.int .i64 a0_1).wf = true) (hw0_3 : (Lit.int .i64 a0_3).wf = true) (hw0_4 : ∀ x ∈ l0_4, (fun (x : Int) => (Lit.int .u8 x).wf = true) x) (hr0_4 : Kd.C (Kd.int .u8) w A0_4 l0_4.length l0_4) (hc0_4 : l0_4.length ≤ c0_4) (y1 : l1.length * 8 ≤ 140737488351232) (hw1 : ∀ x ∈ l1, (fun (x : Int) => (Lit.int .i64 x).wf = true) x) (hr1 : Kd.C (Kd.int .i64) w A1 l1.length l1) (hc1 : l1.length ≤ c1) (hw3 : (Lit.int .u8 a3).wf = true) :
  Calls Try.prog 3 #[.agg #[.bool a0_0, .int .i64 a0_1, .bool a0_2, .int .i64 a0_3, .slice A0_4 l0_4.length c0_4], .slice A1 l1.length c1, .bool a2, .int .u8 a3] w fun e w' => e = .returned (.bool true) ∧ Below w.heap.size w w' := by
 obtain ⟨k, h⟩ := P a0_0 a0_1 a0_2 a0_3 l0_4 l1 a2 a3 hw0_1 hw0_3 (by have := hr0_4.2.1; unfold maxLen; omega) hw0_4 (by have := hr1.2.1; unfold maxLen; omega) y1 hw1 hw3
 refine (phaetonlaw05_WireTells.calls k a0_0 a0_1 a0_2 a0_3 _ _ l0_4 _ _ l1 a2 a3 true w hr0_4 hc0_4 hr1 hc1 h).mono ?_
 rintro e w' ⟨rfl, hd⟩
 exact ⟨rfl, hd⟩

end Go.Proofs.Ythgeekcobmhbfaa.Px

-- Written by myprint.py, a program of this session's, over the kit's print.py; not a text of print.sh's own.
import Derived.Test.YthgeekcobmhbfaaHandBox
import Derived.Test.YthgeekcobmhbfaaHandFive
import Derived.Test.YthgeekcobmhbfaaPx0
import Derived.Test.YthgeekcobmhbfaaPx1
import Derived.Test.YthgeekcobmhbfaaPx2
import Derived.Test.YthgeekcobmhbfaaPx9
import Derived.Test.YthgeekcobmhbfaaPx10
namespace Go.Proofs.Ythgeekcobmhbfaa.Px
open Go.RowKit Go.Proofs.YthgeekcobmhbfaaW.PrintWords Go.Proofs.YthgeekcobmhbfaaW.PrintLast Go.Proofs.YthgeekcobmhbfaaW.PrintMore
attribute [local go_sem] max2_int min2_int max_two min_two max_three min_three max_four min_four   -- for this text's walks alone
set_option linter.unusedVariables false
set_option linter.unusedSimpArgs false

/-! ### phaetonlaw05_WireShort: function 5 -/
mutual
def phaetonlaw05_WireShort.j0 : Nat → Int → List Int → Bool → Bool → Bool → Int → Bool → Int → List Int → Option (Bool)
 | 0, _, _, _, _, _, _, _, _, _ => none
 | k + 1, x1, x2, x7, x34, x495000, x495001, x495002, x495003, x495004 => if x34 = true then (if x7 = true then (some true) else (none)) else ((some (([] : List Int) : List Int)).bind fun y499 => ((wire_Bits.f x495000 x495001 x495002 x495003 x495004).bind fun t502 => (if y499.length + t502.length < 17592186044416 then ((some (y499 ++ t502 : List Int)).bind fun y505 => (if (y505.length : Int) < 20 then (none) else (if 0 ≤ (wrap64 ((y505.length : Int) - 9)) then (if (wrap64 ((y505.length : Int) - 9)) < (y505.length : Int) then (if (y505.length : Int) = 0 then (none) else (if 0 ≤ (Int.tmod (wrap64 (x1)) (y505.length : Int)) then (if (Int.tmod (wrap64 (x1)) (y505.length : Int)) ≤ (y505.length : Int) then ((wire_Read.f ((y505.set ((wrap64 ((y505.length : Int) - 9)) : Int).toNat 0).take ((Int.tmod (wrap64 (x1)) (y505.length : Int)) : Int).toNat)).bind fun bt513 => ((wire_Read.f x2).bind fun bt523 => ((phaetonref04_Same.f bt513.1 bt513.2.1 bt513.2.2.1 bt513.2.2.2.1 bt513.2.2.2.2.1 false 0 false 0 ([] : List Int)).bind fun t533 => (if t533 = true then (if bt513.2.2.2.2.2.1 = 1 then (phaetonlaw05_WireShort.j1 k x2 x7 bt523.2.2.2.2.2.1 bt523.2.2.2.2.2.2 (bt513.2.2.2.2.2.2 != (Int.tmod (wrap64 (x1)) (y505.length : Int))) bt523.1 bt523.2.1 bt523.2.2.1 bt523.2.2.2.1 bt523.2.2.2.2.1) else (phaetonlaw05_WireShort.j1 k x2 x7 bt523.2.2.2.2.2.1 bt523.2.2.2.2.2.2 true bt523.1 bt523.2.1 bt523.2.2.1 bt523.2.2.2.1 bt523.2.2.2.2.1)) else (phaetonlaw05_WireShort.j1 k x2 x7 bt523.2.2.2.2.2.1 bt523.2.2.2.2.2.2 true bt523.1 bt523.2.1 bt523.2.2.1 bt523.2.2.2.1 bt523.2.2.2.2.1))))) else (none)) else (none))) else (none)) else (none)))) else (none))))
def phaetonlaw05_WireShort.j1 : Nat → List Int → Bool → Int → Int → Bool → Bool → Int → Bool → Int → List Int → Option (Bool)
 | 0, _, _, _, _, _, _, _, _, _, _ => none
 | k + 1, x2, x7, x14, x15, x79, x533000, x533001, x533002, x533003, x533004 => if x79 = true then (none) else (if x14 = 0 then ((some (([] : List Int) : List Int)).bind fun y535 => ((wire_Bits.f x533000 x533001 x533002 x533003 x533004).bind fun t538 => (if y535.length + t538.length < 17592186044416 then ((some (y535 ++ t538 : List Int)).bind fun y541 => (if (y541.length : Int) < 20 then (none) else (if (y541.length : Int) > (x2.length : Int) then (none) else (if x15 = (-1) then ((phaetonref04_Right.f k x533000 x533001 x533002 x533003 x533004).bind fun t544 => (if t544 = true then (if 0 ≤ (wrap64 ((y541.length : Int) - 9)) then (if (wrap64 ((y541.length : Int) - 9)) < (y541.length : Int) then (if x7 = true then (if 0 ≤ (y541.length : Int) then (if (y541.length : Int) ≤ (x2.length : Int) then ((phaetonref01_Same.f k (y541.set ((wrap64 ((y541.length : Int) - 9)) : Int).toNat 0) (x2.take ((y541.length : Int) : Int).toNat)).bind fun t547 => (if t547 = true then (some true) else (none))) else (none)) else (none)) else (none)) else (none)) else (none)) else (none))) else (none))))) else (none)))) else (if x7 = true then (if x15 ≥ 0 then (if x15 ≤ (x2.length : Int) then (if x14 = 5 then (some true) else ((phaetonref04_Same.f x533000 x533001 x533002 x533003 x533004 false 0 false 0 ([] : List Int)).bind fun t534 => (if t534 = true then (some true) else (none)))) else (none)) else (none)) else (none)))
end
def phaetonlaw05_WireShort.f (k : Nat) (a0_0 : Bool) (a0_1 : Int) (a0_2 : Bool) (a0_3 : Int) (l0_4 : List Int) (a1 : Int) (l2 : List Int) : Option (Bool) := (phaetonlaw05_head.f k).bind fun t495 => ((phaetonlaw04_Great.f a0_0 a0_1 a0_2 a0_3 l0_4).bind fun t496 => (if t496 = true then (phaetonlaw05_WireShort.j0 k a1 l2 t495 true a0_0 a0_1 a0_2 a0_3 l0_4) else ((phaetonref04_Right.f k a0_0 a0_1 a0_2 a0_3 l0_4).bind fun t497 => (if t497 = true then (if (l2.length : Int) > 400 then (phaetonlaw05_WireShort.j0 k a1 l2 t495 true a0_0 a0_1 a0_2 a0_3 l0_4) else ((phaetonref01_Right.f k l2).bind fun t498 => (phaetonlaw05_WireShort.j0 k a1 l2 t495 (!t498) a0_0 a0_1 a0_2 a0_3 l0_4))) else (phaetonlaw05_WireShort.j0 k a1 l2 t495 true a0_0 a0_1 a0_2 a0_3 l0_4)))))
theorem phaetonlaw05_WireShort.mono_l : ∀ k, (∀ y0 y1 y2 y3 y4 y5 y6 y7 y8, LeO (phaetonlaw05_WireShort.j0 k y0 y1 y2 y3 y4 y5 y6 y7 y8) (phaetonlaw05_WireShort.j0 (k + 1) y0 y1 y2 y3 y4 y5 y6 y7 y8)) ∧ (∀ y0 y1 y2 y3 y4 y5 y6 y7 y8 y9, LeO (phaetonlaw05_WireShort.j1 k y0 y1 y2 y3 y4 y5 y6 y7 y8 y9) (phaetonlaw05_WireShort.j1 (k + 1) y0 y1 y2 y3 y4 y5 y6 y7 y8 y9))
 | 0 => ⟨fun _ _ _ _ _ _ _ _ _ r h => by simp [phaetonlaw05_WireShort.j0] at h, fun _ _ _ _ _ _ _ _ _ _ r h => by simp [phaetonlaw05_WireShort.j1] at h⟩
 | k + 1 => by
  obtain ⟨ih0, ih1⟩ := phaetonlaw05_WireShort.mono_l k
  refine ⟨?_, ?_⟩
  ·intro y0 y1 y2 y3 y4 y5 y6 y7 y8
   unfold phaetonlaw05_WireShort.j0
   repeat' first
   | (with_reducible exact ih0 _ _ _ _ _ _ _ _ _)
   | (with_reducible exact ih1 _ _ _ _ _ _ _ _ _ _)
   | (with_reducible exact phaetonlaw05_head.mono _)
   | (with_reducible exact phaetonref01_Right.mono _ _)
   | (with_reducible exact phaetonref01_Same.mono _ _ _)
   | (with_reducible exact phaetonref04_Right.mono _ _ _ _ _ _)
   | (with_reducible exact LeO.refl _)
   | (with_reducible exact LeO.none _)
   | (with_reducible refine LeO.ite ?_ ?_)
   | (with_reducible refine LeO.bind ?_ (fun _ => ?_))
   | exact ih0 _ _ _ _ _ _ _ _ _
   | exact ih1 _ _ _ _ _ _ _ _ _ _
   | exact phaetonlaw05_head.mono _
   | exact phaetonref01_Right.mono _ _
   | exact phaetonref01_Same.mono _ _ _
   | exact phaetonref04_Right.mono _ _ _ _ _ _
   | exact LeO.none _
   | refine LeO.ite ?_ ?_
   | refine LeO.bind ?_ (fun _ => ?_)
  ·intro y0 y1 y2 y3 y4 y5 y6 y7 y8 y9
   unfold phaetonlaw05_WireShort.j1
   repeat' first
   | (with_reducible exact ih0 _ _ _ _ _ _ _ _ _)
   | (with_reducible exact ih1 _ _ _ _ _ _ _ _ _ _)
   | (with_reducible exact phaetonlaw05_head.mono _)
   | (with_reducible exact phaetonref01_Right.mono _ _)
   | (with_reducible exact phaetonref01_Same.mono _ _ _)
   | (with_reducible exact phaetonref04_Right.mono _ _ _ _ _ _)
   | (with_reducible exact LeO.refl _)
   | (with_reducible exact LeO.none _)
   | (with_reducible refine LeO.ite ?_ ?_)
   | (with_reducible refine LeO.bind ?_ (fun _ => ?_))
   | exact ih0 _ _ _ _ _ _ _ _ _
   | exact ih1 _ _ _ _ _ _ _ _ _ _
   | exact phaetonlaw05_head.mono _
   | exact phaetonref01_Right.mono _ _
   | exact phaetonref01_Same.mono _ _ _
   | exact phaetonref04_Right.mono _ _ _ _ _ _
   | exact LeO.none _
   | refine LeO.ite ?_ ?_
   | refine LeO.bind ?_ (fun _ => ?_)
theorem phaetonlaw05_WireShort.mono : ∀ a0 a1 a2 a3 a4 a5 a6 k, LeO (phaetonlaw05_WireShort.f k a0 a1 a2 a3 a4 a5 a6) (phaetonlaw05_WireShort.f (k + 1) a0 a1 a2 a3 a4 a5 a6) := by
 intro a0 a1 a2 a3 a4 a5 a6 k
 obtain ⟨ih0, ih1⟩ := phaetonlaw05_WireShort.mono_l k
 unfold phaetonlaw05_WireShort.f
 repeat' first
   | (with_reducible exact ih0 _ _ _ _ _ _ _ _ _)
   | (with_reducible exact ih1 _ _ _ _ _ _ _ _ _ _)
   | (with_reducible exact phaetonlaw05_head.mono _)
   | (with_reducible exact phaetonref01_Right.mono _ _)
   | (with_reducible exact phaetonref01_Same.mono _ _ _)
   | (with_reducible exact phaetonref04_Right.mono _ _ _ _ _ _)
   | (with_reducible exact LeO.refl _)
   | (with_reducible exact LeO.none _)
   | (with_reducible refine LeO.ite ?_ ?_)
   | (with_reducible refine LeO.bind ?_ (fun _ => ?_))
   | exact ih0 _ _ _ _ _ _ _ _ _
   | exact ih1 _ _ _ _ _ _ _ _ _ _
   | exact phaetonlaw05_head.mono _
   | exact phaetonref01_Right.mono _ _
   | exact phaetonref01_Same.mono _ _ _
   | exact phaetonref04_Right.mono _ _ _ _ _ _
   | exact LeO.none _
   | refine LeO.ite ?_ ?_
   | refine LeO.bind ?_ (fun _ => ?_)
set_option maxHeartbeats 8000000 in
set_option maxRecDepth 100000 in
theorem phaetonlaw05_WireShort.calls (k : Nat) (a0_0 : Bool) (a0_1 : Int) (a0_2 : Bool) (a0_3 : Int) (A0_4 : Option Addr) (c0_4 : Nat) (l0_4 : List Int) (a1 : Int) (A2 : Option Addr) (c2 : Nat) (l2 : List Int) (r : Bool) (w : World) (hr0_4 : Kd.C (Kd.int .u8) w A0_4 l0_4.length l0_4) (hc0_4 : l0_4.length ≤ c0_4) (hr2 : Kd.C (Kd.int .i64) w A2 l2.length l2) (hc2 : l2.length ≤ c2) (h : phaetonlaw05_WireShort.f k a0_0 a0_1 a0_2 a0_3 l0_4 a1 l2 = some r) :
  Calls Try.prog 5 #[.agg #[.bool a0_0, .int .i64 a0_1, .bool a0_2, .int .i64 a0_3, .slice A0_4 l0_4.length c0_4], .int .u8 a1, .slice A2 l2.length c2] w fun e w' => e = .returned (.bool r) ∧ Below w.heap.size w w' := by
 have hu24 := Try.underlying24
 have HR0_4 := Aside0.mk hr0_4
 have HC0_4 := Aside0.mk hc0_4
 clear hr0_4 hc0_4
 have HR2 := Aside0.mk hr2
 have HC2 := Aside0.mk hc2
 clear hr2 hc2
 have HB := Aside0.mk (Below.refl w.heap.size w)
 have H : ((phaetonlaw05_head.f k).bind fun t495 => ((phaetonlaw04_Great.f a0_0 a0_1 a0_2 a0_3 l0_4).bind fun t496 => (if t496 = true then (phaetonlaw05_WireShort.j0 k a1 l2 t495 true a0_0 a0_1 a0_2 a0_3 l0_4) else ((phaetonref04_Right.f k a0_0 a0_1 a0_2 a0_3 l0_4).bind fun t497 => (if t497 = true then (if (l2.length : Int) > 400 then (phaetonlaw05_WireShort.j0 k a1 l2 t495 true a0_0 a0_1 a0_2 a0_3 l0_4) else ((phaetonref01_Right.f k l2).bind fun t498 => (phaetonlaw05_WireShort.j0 k a1 l2 t495 (!t498) a0_0 a0_1 a0_2 a0_3 l0_4))) else (phaetonlaw05_WireShort.j0 k a1 l2 t495 true a0_0 a0_1 a0_2 a0_3 l0_4)))))) = some r := h
 clear h
 replace H := Option.bind_eq_some_iff.mp H
 obtain ⟨t495, A40, H⟩ := H
 replace H : ((phaetonlaw04_Great.f a0_0 a0_1 a0_2 a0_3 l0_4).bind fun t496 => (if t496 = true then (phaetonlaw05_WireShort.j0 k a1 l2 t495 true a0_0 a0_1 a0_2 a0_3 l0_4) else ((phaetonref04_Right.f k a0_0 a0_1 a0_2 a0_3 l0_4).bind fun t497 => (if t497 = true then (if (l2.length : Int) > 400 then (phaetonlaw05_WireShort.j0 k a1 l2 t495 true a0_0 a0_1 a0_2 a0_3 l0_4) else ((phaetonref01_Right.f k l2).bind fun t498 => (phaetonlaw05_WireShort.j0 k a1 l2 t495 (!t498) a0_0 a0_1 a0_2 a0_3 l0_4))) else (phaetonlaw05_WireShort.j0 k a1 l2 t495 true a0_0 a0_1 a0_2 a0_3 l0_4))))) = some r := H
 have A4 := Aside0.mk A40
 clear A40
 have HC5 := Aside0.mk H
 clear H
 go_enter Try.func5, Try.ntmps5
 (try simp only [List.append])
 go_upto_region 2 with (first | ((with_reducible refine gate_dst (N := 3) rfl ?_); (try (refine gate_guard (by rfl) ?_; dsimp only)); refine box_event ?hg (N := 3) ?hd (cs := #[.bool a0_0, .int .i64 a0_1, .bool a0_2, .int .i64 a0_3, .slice A0_4 l0_4.length c0_4]) (t := 24) ?hr ?_; (case hd => rfl); (case hg => rfl); (case hr => first | (go_simp; done) | (go_simp; rfl)); intro gb494 hg w6 hbox hb; have n0_ := Aside0.mk (below_step (by repeat (first | (with_reducible first | exact HB.out | apply below_alloc | apply pw_below_drewN | apply below_drew1) | exact HB.out)) hb); have n1_ := Aside0.mk (hbox); have n2_ := Aside0.mk ((by rw [hg]; exact (below_size (by repeat (first | (with_reducible first | exact HB.out | apply below_alloc | apply pw_below_drewN | apply below_drew1) | exact HB.out))) : w.heap.size ≤ gb494)); have n3_ := Aside0.mk ((by rw [hg]; exact (below_size (by repeat (first | (with_reducible first | exact HB.out | apply below_alloc | apply pw_below_drewN | apply below_drew1) | exact HB.out))) : w.heap.size ≤ gb494)); clear HB; have HB := n0_; have BK494 := n1_; have GW494 := n2_; have GE494 := n3_; clear n0_ n1_ n2_ n3_; clear hb hbox hg) | ((with_reducible refine gate_callee (f := 10) rfl ?_); refine goesL_ (some 17) rfl rfl Try.func10 (by kernel_rfl) rfl #[] rfl (by (try simp only [List.map_toArray, List.map_cons, List.map_nil]); first | done | rfl | (simp only [List.length_drop, List.length_take]; rfl)) ?_; (with_reducible refine (phaetonlaw05_head.calls k  t495 _ A4.out).mono ?_); rintro e w7 ⟨rfl, hb⟩; refine ⟨_, rfl, ?_⟩; have n0_ := Aside0.mk (blk_below (g := gb494) (o := .cells #[.bool a0_0, .int .i64 a0_1, .bool a0_2, .int .i64 a0_3, .slice A0_4 l0_4.length c0_4] 24 (0, 0)) (by (with_reducible repeat (first | refine blk_drewN ?_ _ | refine blk_drew ?_ | refine blk_alloc ?_ _)); exact BK494.out) hb); have n1_ := Aside0.mk (below_step (by repeat (first | (with_reducible first | exact HB.out | apply below_alloc | apply pw_below_drewN | apply below_drew1 | refine below_set ?_ GE494.out) | exact HB.out)) hb); clear BK494; clear HB; have BK494 := n0_; have HB := n1_; clear n0_ n1_; (try clear hb); (try clear hb2); (try clear hk); (try clear hi)))
 (try simp only [Act.put, List.setIfInBounds_toArray, List.set_cons_zero, List.set_cons_succ])
 go_cut [34] (fun v34 wc => ∃ (kq : Nat) (x34_4 : Bool), v34 = .bool x34_4 ∧ Aside0 (phaetonlaw05_WireShort.j0 kq a1 l2 t495 x34_4 a0_0 a0_1 a0_2 a0_3 l0_4 = some r) ∧ Aside0 (kq ≤ k) ∧ Aside0 (wc.heap[gb494]? = some (.cells #[.bool a0_0, .int .i64 a0_1, .bool a0_2, .int .i64 a0_3, (.slice A0_4 l0_4.length c0_4)] 24 (0, 0))) ∧ Aside0 (Below w.heap.size w wc))
 case first =>
  have H := HC5.out
  clear HC5
  replace H := Option.bind_eq_some_iff.mp H
  obtain ⟨t496, A80, H⟩ := H
  replace H : (if t496 = true then (phaetonlaw05_WireShort.j0 k a1 l2 t495 true a0_0 a0_1 a0_2 a0_3 l0_4) else ((phaetonref04_Right.f k a0_0 a0_1 a0_2 a0_3 l0_4).bind fun t497 => (if t497 = true then (if (l2.length : Int) > 400 then (phaetonlaw05_WireShort.j0 k a1 l2 t495 true a0_0 a0_1 a0_2 a0_3 l0_4) else ((phaetonref01_Right.f k l2).bind fun t498 => (phaetonlaw05_WireShort.j0 k a1 l2 t495 (!t498) a0_0 a0_1 a0_2 a0_3 l0_4))) else (phaetonlaw05_WireShort.j0 k a1 l2 t495 true a0_0 a0_1 a0_2 a0_3 l0_4)))) = some r := H
  have A8 := Aside0.mk A80
  clear A80
  by_cases c9 : t496 = true
  ·subst c9
   have H1 : (phaetonlaw05_WireShort.j0 k a1 l2 t495 true a0_0 a0_1 a0_2 a0_3 l0_4) = some r := by rw [if_pos rfl] at H; exact H
   clear H
   have H := H1
   clear H1
   have H' := Aside0.mk H
   clear H
   have hcz10_0 : w7.cell? ⟨gb494, 0, none⟩ = some (.bool a0_0) := (blk_cell BK494.out 0).trans rfl
   have hcz10_1 : w7.cell? ⟨gb494, 1, none⟩ = some (.int .i64 a0_1) := (blk_cell BK494.out 1).trans rfl
   have hcz10_2 : w7.cell? ⟨gb494, 2, none⟩ = some (.bool a0_2) := (blk_cell BK494.out 2).trans rfl
   have hcz10_3 : w7.cell? ⟨gb494, 3, none⟩ = some (.int .i64 a0_3) := (blk_cell BK494.out 3).trans rfl
   have hcz10_4 : w7.cell? ⟨gb494, 4, none⟩ = some (.slice A0_4 l0_4.length c0_4) := (blk_cell BK494.out 4).trans rfl
   have hfz10_0 := blk_frozen BK494.out 0
   have hfz10_1 := blk_frozen BK494.out 1
   have hfz10_2 := blk_frozen BK494.out 2
   have hfz10_3 := blk_frozen BK494.out 3
   have hfz10_4 := blk_frozen BK494.out 4
   go_wp2_with (first | ((with_reducible refine gate_store (t := 24) (p := 3) rfl ?_); refine HW.store_box2 rfl rfl 24 _ _ rfl rfl rfl BK494.out rfl (by kernel_rfl) (by intro q hq; simp only [List.mem_cons, List.not_mem_nil, or_false] at hq; rcases hq with rfl | rfl | rfl | rfl | rfl <;> rfl) ?_; intro w1_ hw1_ hk1_; simp only [List.toList_toArray, World.setCells, Nat.zero_add, Nat.reduceAdd] at hw1_; subst hw1_; have hcb494_0 := (blk_cell hk1_ 0).trans rfl; have hfb494_0 := blk_frozen hk1_ 0; have hcb494_1 := (blk_cell hk1_ 1).trans rfl; have hfb494_1 := blk_frozen hk1_ 1; have hcb494_2 := (blk_cell hk1_ 2).trans rfl; have hfb494_2 := blk_frozen hk1_ 2; have hcb494_3 := (blk_cell hk1_ 3).trans rfl; have hfb494_3 := blk_frozen hk1_ 3; have hcb494_4 := (blk_cell hk1_ 4).trans rfl; have hfb494_4 := blk_frozen hk1_ 4; clear hk1_) | ((with_reducible refine gate_callee (f := 11) rfl ?_); refine goesL_ (some 19) rfl rfl Try.func11 (by kernel_rfl) rfl #[.agg #[.bool a0_0, .int .i64 a0_1, .bool a0_2, .int .i64 a0_3, .slice A0_4 l0_4.length c0_4]] rfl (by (try simp only [List.map_toArray, List.map_cons, List.map_nil]); first | done | rfl | (simp only [List.length_drop, List.length_take]; rfl)) ?_; (with_reducible refine (phaetonlaw04_Great.calls a0_0 a0_1 a0_2 a0_3 _ _ l0_4 true _ ?side1 ?side2 A8.out).mono ?_); (case side1 => repeat (first | exact (Kd.C_below HR0_4.out HB.out) | (with_reducible refine Kd.C_alloc ?_ _) | (with_reducible refine Kd.C_drewN ?_ _) | (with_reducible refine Kd.C_drew ?_))); (case side2 => exact HC0_4.out); rintro e w11 ⟨rfl, hb⟩; refine ⟨_, rfl, ?_⟩; have n0_ := Aside0.mk (blk_below (g := gb494) (o := .cells #[.bool a0_0, .int .i64 a0_1, .bool a0_2, .int .i64 a0_3, .slice A0_4 l0_4.length c0_4] 24 (0, 0)) (by (with_reducible repeat (first | refine blk_drewN ?_ _ | refine blk_drew ?_ | refine blk_alloc ?_ _)); exact BK494.out) hb); have n1_ := Aside0.mk (below_step (by repeat (first | (with_reducible first | exact HB.out | apply below_alloc | apply pw_below_drewN | apply below_drew1 | refine below_set ?_ GE494.out) | exact HB.out)) hb); clear BK494; clear HB; have BK494 := n0_; have HB := n1_; clear n0_ n1_; (try clear hb); (try clear hb2); (try clear hk); (try clear hi)))
   go_meet
   case rel => exact ⟨_, (true), (by first | rfl | (simp; done) | (simp [*]; done)), H', ⟨by first | omega | exact Nat.le_refl _⟩, ⟨by (with_reducible repeat (first | refine blk_drewN ?_ _ | refine blk_drew ?_ | refine blk_alloc ?_ _)); exact BK494.out⟩, ⟨by repeat (first | (with_reducible first | exact HB.out | apply below_alloc | apply pw_below_drewN | apply below_drew1 | refine below_set ?_ GE494.out) | exact HB.out)⟩⟩
  ·replace c9 := Bool.eq_false_iff.mpr c9
   subst c9
   have H1 : ((phaetonref04_Right.f k a0_0 a0_1 a0_2 a0_3 l0_4).bind fun t497 => (if t497 = true then (if (l2.length : Int) > 400 then (phaetonlaw05_WireShort.j0 k a1 l2 t495 true a0_0 a0_1 a0_2 a0_3 l0_4) else ((phaetonref01_Right.f k l2).bind fun t498 => (phaetonlaw05_WireShort.j0 k a1 l2 t495 (!t498) a0_0 a0_1 a0_2 a0_3 l0_4))) else (phaetonlaw05_WireShort.j0 k a1 l2 t495 true a0_0 a0_1 a0_2 a0_3 l0_4))) = some r := by rw [if_neg (show ¬ (false = true) by decide)] at H; exact H
   clear H
   have H := H1
   clear H1
   replace H := Option.bind_eq_some_iff.mp H
   obtain ⟨t497, A120, H⟩ := H
   replace H : (if t497 = true then (if (l2.length : Int) > 400 then (phaetonlaw05_WireShort.j0 k a1 l2 t495 true a0_0 a0_1 a0_2 a0_3 l0_4) else ((phaetonref01_Right.f k l2).bind fun t498 => (phaetonlaw05_WireShort.j0 k a1 l2 t495 (!t498) a0_0 a0_1 a0_2 a0_3 l0_4))) else (phaetonlaw05_WireShort.j0 k a1 l2 t495 true a0_0 a0_1 a0_2 a0_3 l0_4)) = some r := H
   have A12 := Aside0.mk A120
   clear A120
   by_cases c13 : t497 = true
   ·subst c13
    have H1 : (if (l2.length : Int) > 400 then (phaetonlaw05_WireShort.j0 k a1 l2 t495 true a0_0 a0_1 a0_2 a0_3 l0_4) else ((phaetonref01_Right.f k l2).bind fun t498 => (phaetonlaw05_WireShort.j0 k a1 l2 t495 (!t498) a0_0 a0_1 a0_2 a0_3 l0_4))) = some r := by rw [if_pos rfl] at H; exact H
    clear H
    have H := H1
    clear H1
    by_cases c14 : (l2.length : Int) > 400
    ·rw [if_pos c14] at H
     have c14b0 : decide (400 < (l2.length : Int)) = true := decide_eq_true c14
     have c14b1 : decide (400 < l2.length) = true := decide_eq_true (by omega)
     clear c14
     (first | rw [c14b0] | (simp only [i64_w, i32_w]; rw [c14b0]) | skip)
     have H' := Aside0.mk H
     clear H
     have hcz15_0 : w7.cell? ⟨gb494, 0, none⟩ = some (.bool a0_0) := (blk_cell BK494.out 0).trans rfl
     have hcz15_1 : w7.cell? ⟨gb494, 1, none⟩ = some (.int .i64 a0_1) := (blk_cell BK494.out 1).trans rfl
     have hcz15_2 : w7.cell? ⟨gb494, 2, none⟩ = some (.bool a0_2) := (blk_cell BK494.out 2).trans rfl
     have hcz15_3 : w7.cell? ⟨gb494, 3, none⟩ = some (.int .i64 a0_3) := (blk_cell BK494.out 3).trans rfl
     have hcz15_4 : w7.cell? ⟨gb494, 4, none⟩ = some (.slice A0_4 l0_4.length c0_4) := (blk_cell BK494.out 4).trans rfl
     have hfz15_0 := blk_frozen BK494.out 0
     have hfz15_1 := blk_frozen BK494.out 1
     have hfz15_2 := blk_frozen BK494.out 2
     have hfz15_3 := blk_frozen BK494.out 3
     have hfz15_4 := blk_frozen BK494.out 4
     go_wp2_with (first | ((with_reducible refine gate_store (t := 24) (p := 3) rfl ?_); refine HW.store_box2 rfl rfl 24 _ _ rfl rfl rfl BK494.out rfl (by kernel_rfl) (by intro q hq; simp only [List.mem_cons, List.not_mem_nil, or_false] at hq; rcases hq with rfl | rfl | rfl | rfl | rfl <;> rfl) ?_; intro w1_ hw1_ hk1_; simp only [List.toList_toArray, World.setCells, Nat.zero_add, Nat.reduceAdd] at hw1_; subst hw1_; have hcb494_0 := (blk_cell hk1_ 0).trans rfl; have hfb494_0 := blk_frozen hk1_ 0; have hcb494_1 := (blk_cell hk1_ 1).trans rfl; have hfb494_1 := blk_frozen hk1_ 1; have hcb494_2 := (blk_cell hk1_ 2).trans rfl; have hfb494_2 := blk_frozen hk1_ 2; have hcb494_3 := (blk_cell hk1_ 3).trans rfl; have hfb494_3 := blk_frozen hk1_ 3; have hcb494_4 := (blk_cell hk1_ 4).trans rfl; have hfb494_4 := blk_frozen hk1_ 4; clear hk1_) | ((with_reducible refine gate_callee (f := 11) rfl ?_); refine goesL_ (some 19) rfl rfl Try.func11 (by kernel_rfl) rfl #[.agg #[.bool a0_0, .int .i64 a0_1, .bool a0_2, .int .i64 a0_3, .slice A0_4 l0_4.length c0_4]] rfl (by (try simp only [List.map_toArray, List.map_cons, List.map_nil]); first | done | rfl | (simp only [List.length_drop, List.length_take]; rfl)) ?_; (with_reducible refine (phaetonlaw04_Great.calls a0_0 a0_1 a0_2 a0_3 _ _ l0_4 false _ ?side1 ?side2 A8.out).mono ?_); (case side1 => repeat (first | exact (Kd.C_below HR0_4.out HB.out) | (with_reducible refine Kd.C_alloc ?_ _) | (with_reducible refine Kd.C_drewN ?_ _) | (with_reducible refine Kd.C_drew ?_))); (case side2 => exact HC0_4.out); rintro e w16 ⟨rfl, hb⟩; refine ⟨_, rfl, ?_⟩; have n0_ := Aside0.mk (blk_below (g := gb494) (o := .cells #[.bool a0_0, .int .i64 a0_1, .bool a0_2, .int .i64 a0_3, .slice A0_4 l0_4.length c0_4] 24 (0, 0)) (by (with_reducible repeat (first | refine blk_drewN ?_ _ | refine blk_drew ?_ | refine blk_alloc ?_ _)); exact BK494.out) hb); have n1_ := Aside0.mk (below_step (by repeat (first | (with_reducible first | exact HB.out | apply below_alloc | apply pw_below_drewN | apply below_drew1 | refine below_set ?_ GE494.out) | exact HB.out)) hb); clear BK494; clear HB; have BK494 := n0_; have HB := n1_; clear n0_ n1_; (try clear hb); (try clear hb2); (try clear hk); (try clear hi); have hcz17_0 : w16.cell? ⟨gb494, 0, none⟩ = some (.bool a0_0) := (blk_cell BK494.out 0).trans rfl; have hcz17_1 : w16.cell? ⟨gb494, 1, none⟩ = some (.int .i64 a0_1) := (blk_cell BK494.out 1).trans rfl; have hcz17_2 : w16.cell? ⟨gb494, 2, none⟩ = some (.bool a0_2) := (blk_cell BK494.out 2).trans rfl; have hcz17_3 : w16.cell? ⟨gb494, 3, none⟩ = some (.int .i64 a0_3) := (blk_cell BK494.out 3).trans rfl; have hcz17_4 : w16.cell? ⟨gb494, 4, none⟩ = some (.slice A0_4 l0_4.length c0_4) := (blk_cell BK494.out 4).trans rfl; have hfz17_0 := blk_frozen BK494.out 0; have hfz17_1 := blk_frozen BK494.out 1; have hfz17_2 := blk_frozen BK494.out 2; have hfz17_3 := blk_frozen BK494.out 3; have hfz17_4 := blk_frozen BK494.out 4) | (go_at_call 12; (with_reducible refine (phaetonref04_Right.calls k a0_0 a0_1 a0_2 a0_3 _ _ l0_4 true _ ?side1 ?side2 A12.out).mono ?_); (case side1 => repeat (first | exact (Kd.C_below HR0_4.out HB.out) | (with_reducible refine Kd.C_alloc ?_ _) | (with_reducible refine Kd.C_drewN ?_ _) | (with_reducible refine Kd.C_drew ?_))); (case side2 => exact HC0_4.out); rintro e w18 ⟨rfl, hb⟩; have n0_ := Aside0.mk (blk_below (g := gb494) (o := .cells #[.bool a0_0, .int .i64 a0_1, .bool a0_2, .int .i64 a0_3, .slice A0_4 l0_4.length c0_4] 24 (0, 0)) (by (with_reducible repeat (first | refine blk_drewN ?_ _ | refine blk_drew ?_ | refine blk_alloc ?_ _)); exact BK494.out) hb); have n1_ := Aside0.mk (below_step (by repeat (first | (with_reducible first | exact HB.out | apply below_alloc | apply pw_below_drewN | apply below_drew1 | refine below_set ?_ GE494.out) | exact HB.out)) hb); clear BK494; clear HB; have BK494 := n0_; have HB := n1_; clear n0_ n1_; (try clear hb); (try clear hb2); (try clear hk); (try clear hi)))
     go_meet
     case rel => exact ⟨_, (true), (by first | rfl | (simp; done) | (simp [*]; done)), H', ⟨by first | omega | exact Nat.le_refl _⟩, ⟨by (with_reducible repeat (first | refine blk_drewN ?_ _ | refine blk_drew ?_ | refine blk_alloc ?_ _)); exact BK494.out⟩, ⟨by repeat (first | (with_reducible first | exact HB.out | apply below_alloc | apply pw_below_drewN | apply below_drew1 | refine below_set ?_ GE494.out) | exact HB.out)⟩⟩
    ·rw [if_neg c14] at H
     have c14b0 : decide (400 < (l2.length : Int)) = false := decide_eq_false c14
     have c14b1 : decide (400 < l2.length) = false := decide_eq_false (by omega)
     clear c14
     (first | rw [c14b0] | (simp only [i64_w, i32_w]; rw [c14b0]) | skip)
     replace H := Option.bind_eq_some_iff.mp H
     obtain ⟨t498, A190, H⟩ := H
     replace H : (phaetonlaw05_WireShort.j0 k a1 l2 t495 (!t498) a0_0 a0_1 a0_2 a0_3 l0_4) = some r := H
     have A19 := Aside0.mk A190
     clear A190
     have H' := Aside0.mk H
     clear H
     have hcz20_0 : w7.cell? ⟨gb494, 0, none⟩ = some (.bool a0_0) := (blk_cell BK494.out 0).trans rfl
     have hcz20_1 : w7.cell? ⟨gb494, 1, none⟩ = some (.int .i64 a0_1) := (blk_cell BK494.out 1).trans rfl
     have hcz20_2 : w7.cell? ⟨gb494, 2, none⟩ = some (.bool a0_2) := (blk_cell BK494.out 2).trans rfl
     have hcz20_3 : w7.cell? ⟨gb494, 3, none⟩ = some (.int .i64 a0_3) := (blk_cell BK494.out 3).trans rfl
     have hcz20_4 : w7.cell? ⟨gb494, 4, none⟩ = some (.slice A0_4 l0_4.length c0_4) := (blk_cell BK494.out 4).trans rfl
     have hfz20_0 := blk_frozen BK494.out 0
     have hfz20_1 := blk_frozen BK494.out 1
     have hfz20_2 := blk_frozen BK494.out 2
     have hfz20_3 := blk_frozen BK494.out 3
     have hfz20_4 := blk_frozen BK494.out 4
     go_wp2_with (first | ((with_reducible refine gate_store (t := 24) (p := 3) rfl ?_); refine HW.store_box2 rfl rfl 24 _ _ rfl rfl rfl BK494.out rfl (by kernel_rfl) (by intro q hq; simp only [List.mem_cons, List.not_mem_nil, or_false] at hq; rcases hq with rfl | rfl | rfl | rfl | rfl <;> rfl) ?_; intro w1_ hw1_ hk1_; simp only [List.toList_toArray, World.setCells, Nat.zero_add, Nat.reduceAdd] at hw1_; subst hw1_; have hcb494_0 := (blk_cell hk1_ 0).trans rfl; have hfb494_0 := blk_frozen hk1_ 0; have hcb494_1 := (blk_cell hk1_ 1).trans rfl; have hfb494_1 := blk_frozen hk1_ 1; have hcb494_2 := (blk_cell hk1_ 2).trans rfl; have hfb494_2 := blk_frozen hk1_ 2; have hcb494_3 := (blk_cell hk1_ 3).trans rfl; have hfb494_3 := blk_frozen hk1_ 3; have hcb494_4 := (blk_cell hk1_ 4).trans rfl; have hfb494_4 := blk_frozen hk1_ 4; clear hk1_) | ((with_reducible refine gate_callee (f := 11) rfl ?_); refine goesL_ (some 19) rfl rfl Try.func11 (by kernel_rfl) rfl #[.agg #[.bool a0_0, .int .i64 a0_1, .bool a0_2, .int .i64 a0_3, .slice A0_4 l0_4.length c0_4]] rfl (by (try simp only [List.map_toArray, List.map_cons, List.map_nil]); first | done | rfl | (simp only [List.length_drop, List.length_take]; rfl)) ?_; (with_reducible refine (phaetonlaw04_Great.calls a0_0 a0_1 a0_2 a0_3 _ _ l0_4 false _ ?side1 ?side2 A8.out).mono ?_); (case side1 => repeat (first | exact (Kd.C_below HR0_4.out HB.out) | (with_reducible refine Kd.C_alloc ?_ _) | (with_reducible refine Kd.C_drewN ?_ _) | (with_reducible refine Kd.C_drew ?_))); (case side2 => exact HC0_4.out); rintro e w21 ⟨rfl, hb⟩; refine ⟨_, rfl, ?_⟩; have n0_ := Aside0.mk (blk_below (g := gb494) (o := .cells #[.bool a0_0, .int .i64 a0_1, .bool a0_2, .int .i64 a0_3, .slice A0_4 l0_4.length c0_4] 24 (0, 0)) (by (with_reducible repeat (first | refine blk_drewN ?_ _ | refine blk_drew ?_ | refine blk_alloc ?_ _)); exact BK494.out) hb); have n1_ := Aside0.mk (below_step (by repeat (first | (with_reducible first | exact HB.out | apply below_alloc | apply pw_below_drewN | apply below_drew1 | refine below_set ?_ GE494.out) | exact HB.out)) hb); clear BK494; clear HB; have BK494 := n0_; have HB := n1_; clear n0_ n1_; (try clear hb); (try clear hb2); (try clear hk); (try clear hi); have hcz22_0 : w21.cell? ⟨gb494, 0, none⟩ = some (.bool a0_0) := (blk_cell BK494.out 0).trans rfl; have hcz22_1 : w21.cell? ⟨gb494, 1, none⟩ = some (.int .i64 a0_1) := (blk_cell BK494.out 1).trans rfl; have hcz22_2 : w21.cell? ⟨gb494, 2, none⟩ = some (.bool a0_2) := (blk_cell BK494.out 2).trans rfl; have hcz22_3 : w21.cell? ⟨gb494, 3, none⟩ = some (.int .i64 a0_3) := (blk_cell BK494.out 3).trans rfl; have hcz22_4 : w21.cell? ⟨gb494, 4, none⟩ = some (.slice A0_4 l0_4.length c0_4) := (blk_cell BK494.out 4).trans rfl; have hfz22_0 := blk_frozen BK494.out 0; have hfz22_1 := blk_frozen BK494.out 1; have hfz22_2 := blk_frozen BK494.out 2; have hfz22_3 := blk_frozen BK494.out 3; have hfz22_4 := blk_frozen BK494.out 4) | (go_at_call 12; (with_reducible refine (phaetonref04_Right.calls k a0_0 a0_1 a0_2 a0_3 _ _ l0_4 true _ ?side1 ?side2 A12.out).mono ?_); (case side1 => repeat (first | exact (Kd.C_below HR0_4.out HB.out) | (with_reducible refine Kd.C_alloc ?_ _) | (with_reducible refine Kd.C_drewN ?_ _) | (with_reducible refine Kd.C_drew ?_))); (case side2 => exact HC0_4.out); rintro e w23 ⟨rfl, hb⟩; have n0_ := Aside0.mk (blk_below (g := gb494) (o := .cells #[.bool a0_0, .int .i64 a0_1, .bool a0_2, .int .i64 a0_3, .slice A0_4 l0_4.length c0_4] 24 (0, 0)) (by (with_reducible repeat (first | refine blk_drewN ?_ _ | refine blk_drew ?_ | refine blk_alloc ?_ _)); exact BK494.out) hb); have n1_ := Aside0.mk (below_step (by repeat (first | (with_reducible first | exact HB.out | apply below_alloc | apply pw_below_drewN | apply below_drew1 | refine below_set ?_ GE494.out) | exact HB.out)) hb); clear BK494; clear HB; have BK494 := n0_; have HB := n1_; clear n0_ n1_; (try clear hb); (try clear hb2); (try clear hk); (try clear hi)) | (go_at_call 20; (with_reducible refine (phaetonref01_Right.calls k _ _ l2 t498 _ ?side1 ?side2 A19.out).mono ?_); (case side1 => repeat (first | exact (Kd.C_below HR2.out HB.out) | (with_reducible refine Kd.C_alloc ?_ _) | (with_reducible refine Kd.C_drewN ?_ _) | (with_reducible refine Kd.C_drew ?_))); (case side2 => exact HC2.out); rintro e w' ⟨rfl, ⟨nd, rfl⟩⟩))
     go_meet
     case rel => exact ⟨_, (!t498), (by first | rfl | (simp; done) | (simp [*]; done)), H', ⟨by first | omega | exact Nat.le_refl _⟩, ⟨by (with_reducible repeat (first | refine blk_drewN ?_ _ | refine blk_drew ?_ | refine blk_alloc ?_ _)); exact BK494.out⟩, ⟨by repeat (first | (with_reducible first | exact HB.out | apply below_alloc | apply pw_below_drewN | apply below_drew1 | refine below_set ?_ GE494.out) | exact HB.out)⟩⟩
   ·replace c13 := Bool.eq_false_iff.mpr c13
    subst c13
    have H1 : (phaetonlaw05_WireShort.j0 k a1 l2 t495 true a0_0 a0_1 a0_2 a0_3 l0_4) = some r := by rw [if_neg (show ¬ (false = true) by decide)] at H; exact H
    clear H
    have H := H1
    clear H1
    have H' := Aside0.mk H
    clear H
    have hcz24_0 : w7.cell? ⟨gb494, 0, none⟩ = some (.bool a0_0) := (blk_cell BK494.out 0).trans rfl
    have hcz24_1 : w7.cell? ⟨gb494, 1, none⟩ = some (.int .i64 a0_1) := (blk_cell BK494.out 1).trans rfl
    have hcz24_2 : w7.cell? ⟨gb494, 2, none⟩ = some (.bool a0_2) := (blk_cell BK494.out 2).trans rfl
    have hcz24_3 : w7.cell? ⟨gb494, 3, none⟩ = some (.int .i64 a0_3) := (blk_cell BK494.out 3).trans rfl
    have hcz24_4 : w7.cell? ⟨gb494, 4, none⟩ = some (.slice A0_4 l0_4.length c0_4) := (blk_cell BK494.out 4).trans rfl
    have hfz24_0 := blk_frozen BK494.out 0
    have hfz24_1 := blk_frozen BK494.out 1
    have hfz24_2 := blk_frozen BK494.out 2
    have hfz24_3 := blk_frozen BK494.out 3
    have hfz24_4 := blk_frozen BK494.out 4
    go_wp2_with (first | ((with_reducible refine gate_store (t := 24) (p := 3) rfl ?_); refine HW.store_box2 rfl rfl 24 _ _ rfl rfl rfl BK494.out rfl (by kernel_rfl) (by intro q hq; simp only [List.mem_cons, List.not_mem_nil, or_false] at hq; rcases hq with rfl | rfl | rfl | rfl | rfl <;> rfl) ?_; intro w1_ hw1_ hk1_; simp only [List.toList_toArray, World.setCells, Nat.zero_add, Nat.reduceAdd] at hw1_; subst hw1_; have hcb494_0 := (blk_cell hk1_ 0).trans rfl; have hfb494_0 := blk_frozen hk1_ 0; have hcb494_1 := (blk_cell hk1_ 1).trans rfl; have hfb494_1 := blk_frozen hk1_ 1; have hcb494_2 := (blk_cell hk1_ 2).trans rfl; have hfb494_2 := blk_frozen hk1_ 2; have hcb494_3 := (blk_cell hk1_ 3).trans rfl; have hfb494_3 := blk_frozen hk1_ 3; have hcb494_4 := (blk_cell hk1_ 4).trans rfl; have hfb494_4 := blk_frozen hk1_ 4; clear hk1_) | ((with_reducible refine gate_callee (f := 11) rfl ?_); refine goesL_ (some 19) rfl rfl Try.func11 (by kernel_rfl) rfl #[.agg #[.bool a0_0, .int .i64 a0_1, .bool a0_2, .int .i64 a0_3, .slice A0_4 l0_4.length c0_4]] rfl (by (try simp only [List.map_toArray, List.map_cons, List.map_nil]); first | done | rfl | (simp only [List.length_drop, List.length_take]; rfl)) ?_; (with_reducible refine (phaetonlaw04_Great.calls a0_0 a0_1 a0_2 a0_3 _ _ l0_4 false _ ?side1 ?side2 A8.out).mono ?_); (case side1 => repeat (first | exact (Kd.C_below HR0_4.out HB.out) | (with_reducible refine Kd.C_alloc ?_ _) | (with_reducible refine Kd.C_drewN ?_ _) | (with_reducible refine Kd.C_drew ?_))); (case side2 => exact HC0_4.out); rintro e w25 ⟨rfl, hb⟩; refine ⟨_, rfl, ?_⟩; have n0_ := Aside0.mk (blk_below (g := gb494) (o := .cells #[.bool a0_0, .int .i64 a0_1, .bool a0_2, .int .i64 a0_3, .slice A0_4 l0_4.length c0_4] 24 (0, 0)) (by (with_reducible repeat (first | refine blk_drewN ?_ _ | refine blk_drew ?_ | refine blk_alloc ?_ _)); exact BK494.out) hb); have n1_ := Aside0.mk (below_step (by repeat (first | (with_reducible first | exact HB.out | apply below_alloc | apply pw_below_drewN | apply below_drew1 | refine below_set ?_ GE494.out) | exact HB.out)) hb); clear BK494; clear HB; have BK494 := n0_; have HB := n1_; clear n0_ n1_; (try clear hb); (try clear hb2); (try clear hk); (try clear hi); have hcz26_0 : w25.cell? ⟨gb494, 0, none⟩ = some (.bool a0_0) := (blk_cell BK494.out 0).trans rfl; have hcz26_1 : w25.cell? ⟨gb494, 1, none⟩ = some (.int .i64 a0_1) := (blk_cell BK494.out 1).trans rfl; have hcz26_2 : w25.cell? ⟨gb494, 2, none⟩ = some (.bool a0_2) := (blk_cell BK494.out 2).trans rfl; have hcz26_3 : w25.cell? ⟨gb494, 3, none⟩ = some (.int .i64 a0_3) := (blk_cell BK494.out 3).trans rfl; have hcz26_4 : w25.cell? ⟨gb494, 4, none⟩ = some (.slice A0_4 l0_4.length c0_4) := (blk_cell BK494.out 4).trans rfl; have hfz26_0 := blk_frozen BK494.out 0; have hfz26_1 := blk_frozen BK494.out 1; have hfz26_2 := blk_frozen BK494.out 2; have hfz26_3 := blk_frozen BK494.out 3; have hfz26_4 := blk_frozen BK494.out 4) | (go_at_call 12; (with_reducible refine (phaetonref04_Right.calls k a0_0 a0_1 a0_2 a0_3 _ _ l0_4 false _ ?side1 ?side2 A12.out).mono ?_); (case side1 => repeat (first | exact (Kd.C_below HR0_4.out HB.out) | (with_reducible refine Kd.C_alloc ?_ _) | (with_reducible refine Kd.C_drewN ?_ _) | (with_reducible refine Kd.C_drew ?_))); (case side2 => exact HC0_4.out); rintro e w27 ⟨rfl, hb⟩; have n0_ := Aside0.mk (blk_below (g := gb494) (o := .cells #[.bool a0_0, .int .i64 a0_1, .bool a0_2, .int .i64 a0_3, .slice A0_4 l0_4.length c0_4] 24 (0, 0)) (by (with_reducible repeat (first | refine blk_drewN ?_ _ | refine blk_drew ?_ | refine blk_alloc ?_ _)); exact BK494.out) hb); have n1_ := Aside0.mk (below_step (by repeat (first | (with_reducible first | exact HB.out | apply below_alloc | apply pw_below_drewN | apply below_drew1 | refine below_set ?_ GE494.out) | exact HB.out)) hb); clear BK494; clear HB; have BK494 := n0_; have HB := n1_; clear n0_ n1_; (try clear hb); (try clear hb2); (try clear hk); (try clear hi)))
    go_meet
    case rel => exact ⟨_, (true), (by first | rfl | (simp; done) | (simp [*]; done)), H', ⟨by first | omega | exact Nat.le_refl _⟩, ⟨by (with_reducible repeat (first | refine blk_drewN ?_ _ | refine blk_drew ?_ | refine blk_alloc ?_ _)); exact BK494.out⟩, ⟨by repeat (first | (with_reducible first | exact HB.out | apply below_alloc | apply pw_below_drewN | apply below_drew1 | refine below_set ?_ GE494.out) | exact HB.out)⟩⟩
 case rest =>
  clear HC5
  try clear c1
  try clear c2
  try clear p2
  try clear c5
  try clear c9
  try clear c10
  try clear c11
  try clear c13
  try clear c14
  try clear c14b0
  try clear c14b1
  try clear hcz10_0
  try clear hcz10_1
  try clear hcz10_2
  try clear hcz10_3
  try clear hcz10_4
  try clear hcz15_0
  try clear hcz15_1
  try clear hcz15_2
  try clear hcz15_3
  try clear hcz15_4
  try clear hcz17_0
  try clear hcz17_1
  try clear hcz17_2
  try clear hcz17_3
  try clear hcz17_4
  try clear hcz20_0
  try clear hcz20_1
  try clear hcz20_2
  try clear hcz20_3
  try clear hcz20_4
  try clear hcz22_0
  try clear hcz22_1
  try clear hcz22_2
  try clear hcz22_3
  try clear hcz22_4
  try clear hcz24_0
  try clear hcz24_1
  try clear hcz24_2
  try clear hcz24_3
  try clear hcz24_4
  try clear hcz26_0
  try clear hcz26_1
  try clear hcz26_2
  try clear hcz26_3
  try clear hcz26_4
  try clear hfz10_0
  try clear hfz10_1
  try clear hfz10_2
  try clear hfz10_3
  try clear hfz10_4
  try clear hfz15_0
  try clear hfz15_1
  try clear hfz15_2
  try clear hfz15_3
  try clear hfz15_4
  try clear hfz17_0
  try clear hfz17_1
  try clear hfz17_2
  try clear hfz17_3
  try clear hfz17_4
  try clear hfz20_0
  try clear hfz20_1
  try clear hfz20_2
  try clear hfz20_3
  try clear hfz20_4
  try clear hfz22_0
  try clear hfz22_1
  try clear hfz22_2
  try clear hfz22_3
  try clear hfz22_4
  try clear hfz24_0
  try clear hfz24_1
  try clear hfz24_2
  try clear hfz24_3
  try clear hfz24_4
  try clear hfz26_0
  try clear hfz26_1
  try clear hfz26_2
  try clear hfz26_3
  try clear hfz26_4
  obtain ⟨kq, x34_4, rfl, HA, HJ4, BK494, HB⟩ := hcut
  cases kq with
  | zero => exact absurd HA.out (by simp [phaetonlaw05_WireShort.j0])
  | succ kj4 =>
   have H := HA.out
   clear HA
   simp only [phaetonlaw05_WireShort.j0] at H
   by_cases c28 : x34_4 = true
   ·subst c28
    have H1 : (if t495 = true then (some true) else (none)) = some r := by rw [if_pos rfl] at H; exact H
    clear H
    have H := H1
    clear H1
    by_cases c29 : t495 = true
    ·subst c29
     have H1 : (some true) = some r := by rw [if_pos rfl] at H; exact H
     clear H
     have H := H1
     clear H1
     obtain rfl := Option.some.inj H
     go_wp2
     go_ret
     exact ⟨by first | rfl | (simp [errW_none, errW_some] <;> rfl) | (simp [*, errW_none, errW_some] <;> rfl), by repeat (first | (with_reducible first | exact HB.out | apply below_alloc | apply pw_below_drewN | apply below_drew1 | refine below_set ?_ GE494.out) | exact HB.out)⟩
    ·replace c29 := Bool.eq_false_iff.mpr c29
     subst c29
     have H1 : (none) = some r := by rw [if_neg (show ¬ (false = true) by decide)] at H; exact H
     clear H
     have H := H1
     clear H1
     exact absurd H (by simp)
   ·replace c28 := Bool.eq_false_iff.mpr c28
    subst c28
    have H1 : ((some (([] : List Int) : List Int)).bind fun y499 => ((wire_Bits.f a0_0 a0_1 a0_2 a0_3 l0_4).bind fun t502 => (if y499.length + t502.length < 17592186044416 then ((some (y499 ++ t502 : List Int)).bind fun y505 => (if (y505.length : Int) < 20 then (none) else (if 0 ≤ (wrap64 ((y505.length : Int) - 9)) then (if (wrap64 ((y505.length : Int) - 9)) < (y505.length : Int) then (if (y505.length : Int) = 0 then (none) else (if 0 ≤ (Int.tmod (wrap64 (a1)) (y505.length : Int)) then (if (Int.tmod (wrap64 (a1)) (y505.length : Int)) ≤ (y505.length : Int) then ((wire_Read.f ((y505.set ((wrap64 ((y505.length : Int) - 9)) : Int).toNat 0).take ((Int.tmod (wrap64 (a1)) (y505.length : Int)) : Int).toNat)).bind fun bt513 => ((wire_Read.f l2).bind fun bt523 => ((phaetonref04_Same.f bt513.1 bt513.2.1 bt513.2.2.1 bt513.2.2.2.1 bt513.2.2.2.2.1 false 0 false 0 ([] : List Int)).bind fun t533 => (if t533 = true then (if bt513.2.2.2.2.2.1 = 1 then (phaetonlaw05_WireShort.j1 kj4 l2 t495 bt523.2.2.2.2.2.1 bt523.2.2.2.2.2.2 (bt513.2.2.2.2.2.2 != (Int.tmod (wrap64 (a1)) (y505.length : Int))) bt523.1 bt523.2.1 bt523.2.2.1 bt523.2.2.2.1 bt523.2.2.2.2.1) else (phaetonlaw05_WireShort.j1 kj4 l2 t495 bt523.2.2.2.2.2.1 bt523.2.2.2.2.2.2 true bt523.1 bt523.2.1 bt523.2.2.1 bt523.2.2.2.1 bt523.2.2.2.2.1)) else (phaetonlaw05_WireShort.j1 kj4 l2 t495 bt523.2.2.2.2.2.1 bt523.2.2.2.2.2.2 true bt523.1 bt523.2.1 bt523.2.2.1 bt523.2.2.2.1 bt523.2.2.2.2.1))))) else (none)) else (none))) else (none)) else (none)))) else (none)))) = some r := by rw [if_neg (show ¬ (false = true) by decide)] at H; exact H
    clear H
    have H := H1
    clear H1
    obtain ⟨y499, hy499⟩ : ∃ y_ : List Int, y_ = (([] : List Int)) := ⟨_, rfl⟩
    replace H : ((wire_Bits.f a0_0 a0_1 a0_2 a0_3 l0_4).bind fun t502 => (if y499.length + t502.length < 17592186044416 then ((some (y499 ++ t502 : List Int)).bind fun y505 => (if (y505.length : Int) < 20 then (none) else (if 0 ≤ (wrap64 ((y505.length : Int) - 9)) then (if (wrap64 ((y505.length : Int) - 9)) < (y505.length : Int) then (if (y505.length : Int) = 0 then (none) else (if 0 ≤ (Int.tmod (wrap64 (a1)) (y505.length : Int)) then (if (Int.tmod (wrap64 (a1)) (y505.length : Int)) ≤ (y505.length : Int) then ((wire_Read.f ((y505.set ((wrap64 ((y505.length : Int) - 9)) : Int).toNat 0).take ((Int.tmod (wrap64 (a1)) (y505.length : Int)) : Int).toNat)).bind fun bt513 => ((wire_Read.f l2).bind fun bt523 => ((phaetonref04_Same.f bt513.1 bt513.2.1 bt513.2.2.1 bt513.2.2.2.1 bt513.2.2.2.2.1 false 0 false 0 ([] : List Int)).bind fun t533 => (if t533 = true then (if bt513.2.2.2.2.2.1 = 1 then (phaetonlaw05_WireShort.j1 kj4 l2 t495 bt523.2.2.2.2.2.1 bt523.2.2.2.2.2.2 (bt513.2.2.2.2.2.2 != (Int.tmod (wrap64 (a1)) (y505.length : Int))) bt523.1 bt523.2.1 bt523.2.2.1 bt523.2.2.2.1 bt523.2.2.2.2.1) else (phaetonlaw05_WireShort.j1 kj4 l2 t495 bt523.2.2.2.2.2.1 bt523.2.2.2.2.2.2 true bt523.1 bt523.2.1 bt523.2.2.1 bt523.2.2.2.1 bt523.2.2.2.2.1)) else (phaetonlaw05_WireShort.j1 kj4 l2 t495 bt523.2.2.2.2.2.1 bt523.2.2.2.2.2.2 true bt523.1 bt523.2.1 bt523.2.2.1 bt523.2.2.2.1 bt523.2.2.2.2.1))))) else (none)) else (none))) else (none)) else (none)))) else (none))) = some r := by first | (rw [hy499]; with_reducible exact H) | (have H2_ := (Option.bind_some _ _).symm.trans H; rw [hy499]; with_reducible exact H2_) | (have H2_ := (Option.bind_some _ _).symm.trans H; with_reducible exact H2_) | with_reducible exact H | (rw [hy499]; exact H) | exact H
    have Ny499 := Aside0.mk hy499
    clear hy499
    replace H := Option.bind_eq_some_iff.mp H
    obtain ⟨t502, A300, H⟩ := H
    replace H : (if y499.length + t502.length < 17592186044416 then ((some (y499 ++ t502 : List Int)).bind fun y505 => (if (y505.length : Int) < 20 then (none) else (if 0 ≤ (wrap64 ((y505.length : Int) - 9)) then (if (wrap64 ((y505.length : Int) - 9)) < (y505.length : Int) then (if (y505.length : Int) = 0 then (none) else (if 0 ≤ (Int.tmod (wrap64 (a1)) (y505.length : Int)) then (if (Int.tmod (wrap64 (a1)) (y505.length : Int)) ≤ (y505.length : Int) then ((wire_Read.f ((y505.set ((wrap64 ((y505.length : Int) - 9)) : Int).toNat 0).take ((Int.tmod (wrap64 (a1)) (y505.length : Int)) : Int).toNat)).bind fun bt513 => ((wire_Read.f l2).bind fun bt523 => ((phaetonref04_Same.f bt513.1 bt513.2.1 bt513.2.2.1 bt513.2.2.2.1 bt513.2.2.2.2.1 false 0 false 0 ([] : List Int)).bind fun t533 => (if t533 = true then (if bt513.2.2.2.2.2.1 = 1 then (phaetonlaw05_WireShort.j1 kj4 l2 t495 bt523.2.2.2.2.2.1 bt523.2.2.2.2.2.2 (bt513.2.2.2.2.2.2 != (Int.tmod (wrap64 (a1)) (y505.length : Int))) bt523.1 bt523.2.1 bt523.2.2.1 bt523.2.2.2.1 bt523.2.2.2.2.1) else (phaetonlaw05_WireShort.j1 kj4 l2 t495 bt523.2.2.2.2.2.1 bt523.2.2.2.2.2.2 true bt523.1 bt523.2.1 bt523.2.2.1 bt523.2.2.2.1 bt523.2.2.2.2.1)) else (phaetonlaw05_WireShort.j1 kj4 l2 t495 bt523.2.2.2.2.2.1 bt523.2.2.2.2.2.2 true bt523.1 bt523.2.1 bt523.2.2.1 bt523.2.2.2.1 bt523.2.2.2.2.1))))) else (none)) else (none))) else (none)) else (none)))) else (none)) = some r := H
    have A30 := Aside0.mk A300
    clear A300
    by_cases c31 : y499.length + t502.length < 17592186044416
    ·rw [if_pos c31] at H
     have LMc31 := Aside0.mk c31
     clear c31
     obtain ⟨y505, hy505⟩ : ∃ y_ : List Int, y_ = (y499 ++ t502) := ⟨_, rfl⟩
     replace H : (if (y505.length : Int) < 20 then (none) else (if 0 ≤ (wrap64 ((y505.length : Int) - 9)) then (if (wrap64 ((y505.length : Int) - 9)) < (y505.length : Int) then (if (y505.length : Int) = 0 then (none) else (if 0 ≤ (Int.tmod (wrap64 (a1)) (y505.length : Int)) then (if (Int.tmod (wrap64 (a1)) (y505.length : Int)) ≤ (y505.length : Int) then ((wire_Read.f ((y505.set ((wrap64 ((y505.length : Int) - 9)) : Int).toNat 0).take ((Int.tmod (wrap64 (a1)) (y505.length : Int)) : Int).toNat)).bind fun bt513 => ((wire_Read.f l2).bind fun bt523 => ((phaetonref04_Same.f bt513.1 bt513.2.1 bt513.2.2.1 bt513.2.2.2.1 bt513.2.2.2.2.1 false 0 false 0 ([] : List Int)).bind fun t533 => (if t533 = true then (if bt513.2.2.2.2.2.1 = 1 then (phaetonlaw05_WireShort.j1 kj4 l2 t495 bt523.2.2.2.2.2.1 bt523.2.2.2.2.2.2 (bt513.2.2.2.2.2.2 != (Int.tmod (wrap64 (a1)) (y505.length : Int))) bt523.1 bt523.2.1 bt523.2.2.1 bt523.2.2.2.1 bt523.2.2.2.2.1) else (phaetonlaw05_WireShort.j1 kj4 l2 t495 bt523.2.2.2.2.2.1 bt523.2.2.2.2.2.2 true bt523.1 bt523.2.1 bt523.2.2.1 bt523.2.2.2.1 bt523.2.2.2.2.1)) else (phaetonlaw05_WireShort.j1 kj4 l2 t495 bt523.2.2.2.2.2.1 bt523.2.2.2.2.2.2 true bt523.1 bt523.2.1 bt523.2.2.1 bt523.2.2.2.1 bt523.2.2.2.2.1))))) else (none)) else (none))) else (none)) else (none))) = some r := by first | (rw [hy505]; with_reducible exact H) | (have H2_ := (Option.bind_some _ _).symm.trans H; rw [hy505]; with_reducible exact H2_) | (have H2_ := (Option.bind_some _ _).symm.trans H; with_reducible exact H2_) | with_reducible exact H | (rw [hy505]; exact H) | exact H
     have Ny505 := Aside0.mk hy505
     clear hy505
     by_cases c32 : (y505.length : Int) < 20
     ·rw [if_pos c32] at H
      exact absurd H (by simp)
     ·rw [if_neg c32] at H
      have c32b0 : decide ((y505.length : Int) < 20) = false := decide_eq_false c32
      have c32b1 : decide (y505.length < 20) = false := decide_eq_false (by omega)
      clear c32
      obtain ⟨ji33, hji33⟩ : ∃ j_ : Int, (wrap64 ((y505.length : Int) - 9)) = j_ := ⟨_, rfl⟩
      replace H : (if 0 ≤ (ji33) then (if (ji33) < (y505.length : Int) then (if (y505.length : Int) = 0 then (none) else (if 0 ≤ (Int.tmod (wrap64 (a1)) (y505.length : Int)) then (if (Int.tmod (wrap64 (a1)) (y505.length : Int)) ≤ (y505.length : Int) then ((wire_Read.f ((y505.set ((ji33) : Int).toNat 0).take ((Int.tmod (wrap64 (a1)) (y505.length : Int)) : Int).toNat)).bind fun bt513 => ((wire_Read.f l2).bind fun bt523 => ((phaetonref04_Same.f bt513.1 bt513.2.1 bt513.2.2.1 bt513.2.2.2.1 bt513.2.2.2.2.1 false 0 false 0 ([] : List Int)).bind fun t533 => (if t533 = true then (if bt513.2.2.2.2.2.1 = 1 then (phaetonlaw05_WireShort.j1 kj4 l2 t495 bt523.2.2.2.2.2.1 bt523.2.2.2.2.2.2 (bt513.2.2.2.2.2.2 != (Int.tmod (wrap64 (a1)) (y505.length : Int))) bt523.1 bt523.2.1 bt523.2.2.1 bt523.2.2.2.1 bt523.2.2.2.2.1) else (phaetonlaw05_WireShort.j1 kj4 l2 t495 bt523.2.2.2.2.2.1 bt523.2.2.2.2.2.2 true bt523.1 bt523.2.1 bt523.2.2.1 bt523.2.2.2.1 bt523.2.2.2.2.1)) else (phaetonlaw05_WireShort.j1 kj4 l2 t495 bt523.2.2.2.2.2.1 bt523.2.2.2.2.2.2 true bt523.1 bt523.2.1 bt523.2.2.1 bt523.2.2.2.1 bt523.2.2.2.2.1))))) else (none)) else (none))) else (none)) else (none)) = some r := by first | (rw [hji33] at H; exact H) | (simp only [hji33] at H ⊢; exact H)
      (try rw [hji33] at A30)
      have hji33w : (IntKind.i64.wrap ((y505.length : Int) - 9)) = ji33 := (i64_w _).trans hji33
      by_cases c34 : 0 ≤ (ji33)
      ·rw [if_pos c34] at H
       have c34b0 : decide (0 ≤ (ji33)) = true := decide_eq_true c34
       clear c34
       by_cases c35 : (ji33) < (y505.length : Int)
       ·rw [if_pos c35] at H
        have c35b0 : decide ((ji33) < (y505.length : Int)) = true := decide_eq_true c35
        clear c35
        obtain ⟨y508, hy508⟩ : ∃ y_ : List Int, y_ = (y505.set ((ji33) : Int).toNat 0) := ⟨_, rfl⟩
        replace H : (if (y505.length : Int) = 0 then (none) else (if 0 ≤ (Int.tmod (wrap64 (a1)) (y505.length : Int)) then (if (Int.tmod (wrap64 (a1)) (y505.length : Int)) ≤ (y505.length : Int) then ((wire_Read.f (y508.take ((Int.tmod (wrap64 (a1)) (y505.length : Int)) : Int).toNat)).bind fun bt513 => ((wire_Read.f l2).bind fun bt523 => ((phaetonref04_Same.f bt513.1 bt513.2.1 bt513.2.2.1 bt513.2.2.2.1 bt513.2.2.2.2.1 false 0 false 0 ([] : List Int)).bind fun t533 => (if t533 = true then (if bt513.2.2.2.2.2.1 = 1 then (phaetonlaw05_WireShort.j1 kj4 l2 t495 bt523.2.2.2.2.2.1 bt523.2.2.2.2.2.2 (bt513.2.2.2.2.2.2 != (Int.tmod (wrap64 (a1)) (y505.length : Int))) bt523.1 bt523.2.1 bt523.2.2.1 bt523.2.2.2.1 bt523.2.2.2.2.1) else (phaetonlaw05_WireShort.j1 kj4 l2 t495 bt523.2.2.2.2.2.1 bt523.2.2.2.2.2.2 true bt523.1 bt523.2.1 bt523.2.2.1 bt523.2.2.2.1 bt523.2.2.2.2.1)) else (phaetonlaw05_WireShort.j1 kj4 l2 t495 bt523.2.2.2.2.2.1 bt523.2.2.2.2.2.2 true bt523.1 bt523.2.1 bt523.2.2.1 bt523.2.2.2.1 bt523.2.2.2.2.1))))) else (none)) else (none))) = some r := by first | (rw [hy508]; with_reducible exact H) | (have H2_ := (Option.bind_some _ _).symm.trans H; rw [hy508]; with_reducible exact H2_) | (have H2_ := (Option.bind_some _ _).symm.trans H; with_reducible exact H2_) | with_reducible exact H | (rw [hy508]; exact H) | exact H
        have Ny508 := Aside0.mk hy508
        clear hy508
        by_cases c37 : (y505.length : Int) = 0
        ·exfalso; (try simp only [decide_eq_true_eq, decide_eq_false_iff_not, beq_iff_eq, beq_eq_false_iff_ne, ne_eq] at c32b0); omega
        ·rw [if_neg c37] at H
         have c37b0 : ((y505.length : Int) == 0) = false := beq_eq_false_iff_ne.mpr c37
         have c37b1 : ((y505.length : Int) != 0) = true := bne_iff_ne.mpr c37
         have c37b2 : ¬ (y505 = []) := fun h_ => c37 (by rw [h_]; rfl)
         obtain ⟨ji38, hji38⟩ : ∃ j_ : Int, (Int.tmod (wrap64 (a1)) (y505.length : Int)) = j_ := ⟨_, rfl⟩
         replace H : (if 0 ≤ (ji38) then (if (ji38) ≤ (y505.length : Int) then ((wire_Read.f (y508.take ((ji38) : Int).toNat)).bind fun bt513 => ((wire_Read.f l2).bind fun bt523 => ((phaetonref04_Same.f bt513.1 bt513.2.1 bt513.2.2.1 bt513.2.2.2.1 bt513.2.2.2.2.1 false 0 false 0 ([] : List Int)).bind fun t533 => (if t533 = true then (if bt513.2.2.2.2.2.1 = 1 then (phaetonlaw05_WireShort.j1 kj4 l2 t495 bt523.2.2.2.2.2.1 bt523.2.2.2.2.2.2 (bt513.2.2.2.2.2.2 != (ji38)) bt523.1 bt523.2.1 bt523.2.2.1 bt523.2.2.2.1 bt523.2.2.2.2.1) else (phaetonlaw05_WireShort.j1 kj4 l2 t495 bt523.2.2.2.2.2.1 bt523.2.2.2.2.2.2 true bt523.1 bt523.2.1 bt523.2.2.1 bt523.2.2.2.1 bt523.2.2.2.2.1)) else (phaetonlaw05_WireShort.j1 kj4 l2 t495 bt523.2.2.2.2.2.1 bt523.2.2.2.2.2.2 true bt523.1 bt523.2.1 bt523.2.2.1 bt523.2.2.2.1 bt523.2.2.2.2.1))))) else (none)) else (none)) = some r := by first | (rw [hji38] at H; exact H) | (simp only [hji38] at H ⊢; exact H)
         (try rw [hji38] at A30)
         by_cases c39 : 0 ≤ (ji38)
         ·rw [if_pos c39] at H
          have c39b0 := eq_true c39
          have c39b1 : decide (0 ≤ (ji38)) = true := decide_eq_true c39
          have c39m : max (ji38) 0 = (ji38) := by omega
          clear c39
          by_cases c40 : (ji38) ≤ (y505.length : Int)
          ·rw [if_pos c40] at H
           have c40b0 := eq_true c40
           have c40b1 : decide ((ji38) ≤ (y505.length : Int)) = true := decide_eq_true c40
           clear c40
           obtain ⟨y509, hy509⟩ : ∃ y_ : List Int, y_ = (y508.take ((ji38) : Int).toNat) := ⟨_, rfl⟩
           replace H : ((wire_Read.f y509).bind fun bt513 => ((wire_Read.f l2).bind fun bt523 => ((phaetonref04_Same.f bt513.1 bt513.2.1 bt513.2.2.1 bt513.2.2.2.1 bt513.2.2.2.2.1 false 0 false 0 ([] : List Int)).bind fun t533 => (if t533 = true then (if bt513.2.2.2.2.2.1 = 1 then (phaetonlaw05_WireShort.j1 kj4 l2 t495 bt523.2.2.2.2.2.1 bt523.2.2.2.2.2.2 (bt513.2.2.2.2.2.2 != (ji38)) bt523.1 bt523.2.1 bt523.2.2.1 bt523.2.2.2.1 bt523.2.2.2.2.1) else (phaetonlaw05_WireShort.j1 kj4 l2 t495 bt523.2.2.2.2.2.1 bt523.2.2.2.2.2.2 true bt523.1 bt523.2.1 bt523.2.2.1 bt523.2.2.2.1 bt523.2.2.2.2.1)) else (phaetonlaw05_WireShort.j1 kj4 l2 t495 bt523.2.2.2.2.2.1 bt523.2.2.2.2.2.2 true bt523.1 bt523.2.1 bt523.2.2.1 bt523.2.2.2.1 bt523.2.2.2.2.1))))) = some r := by first | (rw [hy509]; with_reducible exact H) | (have H2_ := (Option.bind_some _ _).symm.trans H; rw [hy509]; with_reducible exact H2_) | (have H2_ := (Option.bind_some _ _).symm.trans H; with_reducible exact H2_) | with_reducible exact H | (rw [hy509]; exact H) | exact H
           have Ny509 := Aside0.mk hy509
           clear hy509
           replace H := Option.bind_eq_some_iff.mp H
           obtain ⟨⟨t513, t514, t515, t516, t517, t520, t521⟩, A410, H⟩ := H
           replace H : ((wire_Read.f l2).bind fun bt523 => ((phaetonref04_Same.f t513 t514 t515 t516 t517 false 0 false 0 ([] : List Int)).bind fun t533 => (if t533 = true then (if t520 = 1 then (phaetonlaw05_WireShort.j1 kj4 l2 t495 bt523.2.2.2.2.2.1 bt523.2.2.2.2.2.2 (t521 != (ji38)) bt523.1 bt523.2.1 bt523.2.2.1 bt523.2.2.2.1 bt523.2.2.2.2.1) else (phaetonlaw05_WireShort.j1 kj4 l2 t495 bt523.2.2.2.2.2.1 bt523.2.2.2.2.2.2 true bt523.1 bt523.2.1 bt523.2.2.1 bt523.2.2.2.1 bt523.2.2.2.2.1)) else (phaetonlaw05_WireShort.j1 kj4 l2 t495 bt523.2.2.2.2.2.1 bt523.2.2.2.2.2.2 true bt523.1 bt523.2.1 bt523.2.2.1 bt523.2.2.2.1 bt523.2.2.2.2.1)))) = some r := H
           have A41 := Aside0.mk A410
           clear A410
           replace H := Option.bind_eq_some_iff.mp H
           obtain ⟨⟨t523, t524, t525, t526, t527, t530, t531⟩, A420, H⟩ := H
           replace H : ((phaetonref04_Same.f t513 t514 t515 t516 t517 false 0 false 0 ([] : List Int)).bind fun t533 => (if t533 = true then (if t520 = 1 then (phaetonlaw05_WireShort.j1 kj4 l2 t495 t530 t531 (t521 != (ji38)) t523 t524 t525 t526 t527) else (phaetonlaw05_WireShort.j1 kj4 l2 t495 t530 t531 true t523 t524 t525 t526 t527)) else (phaetonlaw05_WireShort.j1 kj4 l2 t495 t530 t531 true t523 t524 t525 t526 t527))) = some r := H
           have A42 := Aside0.mk A420
           clear A420
           have HC43 := Aside0.mk H
           clear H
           go_upto_region 11 with (first | ((with_reducible refine gate_dst (N := 36) rfl ?_); (try (refine gate_guard (by rfl) ?_; dsimp only)); refine Kd.R_lit (Kd.int .i64) _ 3 ?hg (N := 36) ?hd (xs := ([] : List Int)) (inner := []) (ok := fun _ => True) (okp := fun _ => True) ?hr ?hp (fun _ hk => hk) trivial (Below.refl _ _) (Nat.le_refl _) (by simp) ?_; (case hd => rfl); (case hg => rfl); (case hr => first | (go_simp; done) | (go_simp; rfl)); (case hp => exact (Reps.none _ _)); intro v500 w44 ho45 hb hg_ hnew_; clear hg_ hnew_; (first | rw [← Ny499.out] at ho45 | (simp only [Int.reduceToNat] at ho45; rw [← Ny499.out] at ho45)); have n0_ := Aside0.mk (Kd.R_lower ho45 (below_size (by repeat (first | (with_reducible first | exact HB.out | apply below_alloc | apply pw_below_drewN | apply below_drew1 | refine below_set ?_ GE494.out) | exact HB.out)))); have n1_ := Aside0.mk (blk_below (g := gb494) (o := .cells #[.bool a0_0, .int .i64 a0_1, .bool a0_2, .int .i64 a0_3, .slice A0_4 l0_4.length c0_4] 24 (0, 0)) (by (with_reducible repeat (first | refine blk_drewN ?_ _ | refine blk_drew ?_ | refine blk_alloc ?_ _)); exact BK494.out) hb); have n2_ := Aside0.mk (below_step (by repeat (first | (with_reducible first | exact HB.out | apply below_alloc | apply pw_below_drewN | apply below_drew1 | refine below_set ?_ GE494.out) | exact HB.out)) hb); clear BK494; clear HB; have HO501 := n0_; have BK494 := n1_; have HB := n2_; clear n0_ n1_ n2_; clear hb ho45; have hcz46_0 : w44.cell? ⟨gb494, 0, none⟩ = some (.bool a0_0) := (blk_cell BK494.out 0).trans rfl; have hcz46_1 : w44.cell? ⟨gb494, 1, none⟩ = some (.int .i64 a0_1) := (blk_cell BK494.out 1).trans rfl; have hcz46_2 : w44.cell? ⟨gb494, 2, none⟩ = some (.bool a0_2) := (blk_cell BK494.out 2).trans rfl; have hcz46_3 : w44.cell? ⟨gb494, 3, none⟩ = some (.int .i64 a0_3) := (blk_cell BK494.out 3).trans rfl; have hcz46_4 : w44.cell? ⟨gb494, 4, none⟩ = some (.slice A0_4 l0_4.length c0_4) := (blk_cell BK494.out 4).trans rfl; have hfz46_0 := blk_frozen BK494.out 0; have hfz46_1 := blk_frozen BK494.out 1; have hfz46_2 := blk_frozen BK494.out 2; have hfz46_3 := blk_frozen BK494.out 3; have hfz46_4 := blk_frozen BK494.out 4) | ((with_reducible refine gate_callee (f := 14) rfl ?_); refine goesL_ (some 38) rfl rfl Try.func14 (by kernel_rfl) rfl #[.agg #[.bool a0_0, .int .i64 a0_1, .bool a0_2, .int .i64 a0_3, .slice A0_4 l0_4.length c0_4]] rfl (by (try simp only [List.map_toArray, List.map_cons, List.map_nil]); first | done | rfl | (simp only [List.length_drop, List.length_take]; rfl)) ?_; (with_reducible refine (wire_Bits.calls a0_0 a0_1 a0_2 a0_3 _ _ l0_4 t502 _ ?side1 ?side2 A30.out).mono ?_); (case side1 => repeat (first | exact (Kd.C_below HR0_4.out HB.out) | (with_reducible refine Kd.C_alloc ?_ _) | (with_reducible refine Kd.C_drewN ?_ _) | (with_reducible refine Kd.C_drew ?_))); (case side2 => exact HC0_4.out); rintro e w47 ⟨v503, rfl, ho0, hb⟩; refine ⟨_, rfl, ?_⟩; have n0_ := Aside0.mk (Kd.R_elder' (by (with_reducible repeat (first | apply Kd.R_alloc | apply Kd.R_drewN | apply Kd.R_drew)); exact HO501.out) (Kd.R_base ho0) hb); have n1_ := Aside0.mk (Kd.R_lower (Kd.R_new' ho0 (Kd.R_lt (by (with_reducible repeat (first | apply Kd.R_alloc | apply Kd.R_drewN | apply Kd.R_drew)); exact HO501.out))) (below_size (by repeat (first | (with_reducible first | exact HB.out | apply below_alloc | apply pw_below_drewN | apply below_drew1 | refine below_set ?_ GE494.out) | exact HB.out)))); have n2_ := Aside0.mk (blk_below (g := gb494) (o := .cells #[.bool a0_0, .int .i64 a0_1, .bool a0_2, .int .i64 a0_3, .slice A0_4 l0_4.length c0_4] 24 (0, 0)) (by (with_reducible repeat (first | refine blk_drewN ?_ _ | refine blk_drew ?_ | refine blk_alloc ?_ _)); exact BK494.out) hb); have n3_ := Aside0.mk (below_step (by repeat (first | (with_reducible first | exact HB.out | apply below_alloc | apply pw_below_drewN | apply below_drew1 | refine below_set ?_ GE494.out) | exact HB.out)) hb); clear HO501; clear BK494; clear HB; have HO501 := n0_; have HO504 := n1_; have BK494 := n2_; have HB := n3_; clear n0_ n1_ n2_ n3_; (try clear hb); (try clear hb2); (try clear hk); (try clear hi); (try clear ho0); obtain ⟨Ao49, co49, eo49⟩ := Kd.R_slice HO504.out; subst eo49) | ((with_reducible refine gate_builtin (b := .append) (xs := #[.tmp 36, .tmp 38]) rfl ?_); (try (refine gate_guard (by rfl) ?_; dsimp only)); at_builtin; refine Kd.R_append_rows (Kd.int .i64) (w0 := w) w.heap.size rfl (.tmp 36) (.tmp 38) 25 3 (.int .i64 0) 8 rfl Try.underlying25 info3 rfl (by decide) (by omega) v500 y499 t502 _ _ _ (fun k_ => some k_ ≠ (.slice Ao49 t502.length co49 : Value).ownBlock) (fun _ => False) rfl rfl ?aO ?aR (fun _ _ h => h) (fun _ h => h.elim) ?aF ?aB ?aS ?aL ?_; (case aR => repeat (first | exact (Kd.R_reads' HO504.out).2.2 | (with_reducible refine Kd.C_alloc ?_ _) | (with_reducible refine Kd.C_drewN ?_ _) | (with_reducible refine Kd.C_drew ?_))); (case aB => exact (by repeat (first | (with_reducible first | exact HB.out | apply below_alloc | apply pw_below_drewN | apply below_drew1 | refine below_set ?_ GE494.out) | exact HB.out))); (case aF => exact (fun k_ hk => Kd.fresh' (Kd.R_lt (by (with_reducible repeat (first | apply Kd.R_alloc | apply Kd.R_drewN | apply Kd.R_drew)); exact HO504.out)) k_ hk)); (case aO => exact (by (with_reducible repeat (first | apply Kd.R_alloc | apply Kd.R_drewN | apply Kd.R_drew)); exact Kd.R_mono HO501.out (fun _ hk => hk.2))); (case aS => exact (below_size (by repeat (first | (with_reducible first | exact HB.out | apply below_alloc | apply pw_below_drewN | apply below_drew1 | refine below_set ?_ GE494.out) | exact HB.out)))); (case aL => have := LMc31.out; omega); intro v506 w48 ho hb hg hat; rw [← Ny505.out] at ho; have n0_ := Aside0.mk (blk_grown (g := gb494) (o := .cells #[.bool a0_0, .int .i64 a0_1, .bool a0_2, .int .i64 a0_3, .slice A0_4 l0_4.length c0_4] 24 (0, 0)) (by (with_reducible repeat (first | refine blk_drewN ?_ _ | refine blk_drew ?_ | refine blk_alloc ?_ _)); exact BK494.out) hg (Kd.R_ne HO501.out BK494.out (by decide))); have n1_ := Aside0.mk (Kd.R_after (ok := (fun _ => True)) (by (with_reducible repeat (first | apply Kd.R_alloc | apply Kd.R_drewN | apply Kd.R_drew)); exact HO504.out) hg hat); have n2_ := Aside0.mk (hb); have n3_ := Aside0.mk (ho); clear BK494; clear HO504; clear HB; clear HO501; have BK494 := n0_; have HO504 := n1_; have HB := n2_; have HO507 := n3_; clear n0_ n1_ n2_ n3_; clear ho hb hg hat; obtain ⟨Ao50, co50, eo50⟩ := Kd.R_slice HO507.out; subst eo50; have p36 : 0 ≤ ((ji33) : Int) := of_decide_eq_true (by first | (with_reducible assumption) | assumption); have q36 : ((ji33) : Int) < ((y505.length : Int) : Int) := of_decide_eq_true (by first | (with_reducible assumption) | assumption); obtain ⟨go36, co36, eo36, gb36, gl36, cl36, HG36⟩ := Kd.R_form HO507.out (by omega); (first | cases eo36 | (injection eo36 with ea_ en_ ec_; (first | subst ea_ | (injection ea_ with ea_; subst ea_)); subst ec_; clear en_)); have GB36 := Aside0.mk gb36; have GG36 := Aside0.mk HG36; clear gb36 gl36 HG36; obtain ⟨hx36_0, hf36_0⟩ := Kd.R_celln 0 HO507.out ((ji33) : Int) p36 q36; replace p36 := eq_true p36; replace q36 := eq_true q36; obtain ⟨hy51_, hz51_⟩ := Kd.R_celln 0 HO507.out ((ji33) : Int) (of_decide_eq_true (by first | (with_reducible assumption) | assumption)) (of_decide_eq_true (by first | (with_reducible assumption) | assumption)); have HP51 := Kd.R_putg HO507.out ((ji33) : Int) 0) | ((with_reducible refine gate_store (t := 3) (p := 47) rfl ?_); refine store_event (t := 3) (p := 47) (v := ?vo_w52) (w1 := (w48.setCell ⟨go36, ((ji33) : Int).toNat, none⟩ (.int .i64 0))) ?hg ?ho ?hn ?hr ?_; (case ho => rfl); (case hg => rfl); (case hn => rfl); (case hr => first | (go_simp; done) | (go_simp; rfl)); intro w52 hw; have hg : w48.grownBy w52 (some go36) := (by rw [hw]; exact HP51.2); have hp_ : Kd.R (Kd.int .i64) 3 w52 w.heap.size (fun k_ => some k_ ≠ (.slice Ao49 t502.length co49 : Value).ownBlock) (.slice (some ⟨go36, 0, none⟩) y505.length co50) y508 := (by rw [hw, Ny508.out]; exact HP51.1); clear HP51; have n0_ := Aside0.mk (blk_grown (g := gb494) (o := .cells #[.bool a0_0, .int .i64 a0_1, .bool a0_2, .int .i64 a0_3, .slice A0_4 l0_4.length c0_4] 24 (0, 0)) (by (with_reducible repeat (first | refine blk_drewN ?_ _ | refine blk_drew ?_ | refine blk_alloc ?_ _)); exact BK494.out) hg (Kd.R_ne HO507.out BK494.out (by decide))); have n1_ := Aside0.mk (Kd.R_after (v := (.slice (some ⟨go36, 0, none⟩) y505.length co50)) (v1 := (.slice (some ⟨go36, 0, none⟩) y505.length co50)) (ok := (fun _ => True)) (by (with_reducible repeat (first | apply Kd.R_alloc | apply Kd.R_drewN | apply Kd.R_drew)); exact HO504.out) hg (.inl rfl)); have n2_ := Aside0.mk (hp_); have n3_ := Aside0.mk ((by rw [hw]; exact below_set (HB.out) GB36.out : Below w.heap.size w w52)); clear BK494; clear HO504; clear HO507; clear HB; have BK494 := n0_; have HO504 := n1_; have HO507 := n2_; have HB := n3_; clear n0_ n1_ n2_ n3_; clear hg hw hp_; have hlx53 := (Kd.R_reads' HO507.out).1; have q53 : ((ji38) : Int) ≤ ((y505.length : Int) : Int) := of_decide_eq_true (by first | (with_reducible assumption) | assumption); obtain ⟨i053, hi053, _, hsz53, _⟩ := info_parts info3; have hroom53 : y505.length ≤ co50 := (Kd.R_reads' HO507.out).2.1; have hroomc53 : y508.length ≤ co50 := (by rw [← hlx53]; exact hroom53); have hC53 : Kd.C (Kd.int .i64) _ (some ⟨go36, 0, none⟩) y508.length y508 := (Kd.R_reads' HO507.out).2.2; have hcut53 := cut_to (P := Try.prog) 25 3 .i64 Try.underlying25 hi053 (some ⟨go36, 0, none⟩) y505.length co50 (ji38) (of_decide_eq_true (by first | (with_reducible assumption) | assumption)) q53 hroom53; have hr53 := Kd.C_take (m := ((ji38) : Int).toNat) hC53 (by omega); have hy53 : y509.length = ((ji38) : Int).toNat := (by rw [Ny509.out, List.length_take]; omega); rw [← Ny509.out] at hr53; rw [← hy53] at hcut53; have HR512 := Aside0.mk hr53; have HC512 := Aside0.mk (show y509.length ≤ co50 from by omega); clear hr53 hC53 hroom53 hi053 hsz53 hroomc53; have KY53 := Aside0.mk hy53; clear hy53; have KE53 := Aside0.mk hlx53; have KL53 := Aside0.mk (show ((ji38) : Int).toNat ≤ y508.length from by omega); clear hlx53; replace q53 := eq_true q53) | ((with_reducible refine gate_callee (f := 21) rfl ?_); refine goesL_ (some 57) rfl rfl Try.func21 (by kernel_rfl) rfl #[.slice (some ⟨go36, 0, none⟩) y509.length co50] rfl (by (try simp only [List.map_toArray, List.map_cons, List.map_nil]); first | done | rfl | (simp only [List.length_drop, List.length_take]; rfl)) ?_; (with_reducible refine (wire_Read.calls _ _ y509 t513 t514 t515 t516 t517 t520 t521 _ ?side1 ?side2 A41.out).mono ?_); (case side1 => repeat (first | exact (by repeat (first | (with_reducible exact HR512.out) | (with_reducible refine Kd.C_alloc ?_ _) | (with_reducible refine Kd.C_drewN ?_ _) | (with_reducible refine Kd.C_drew ?_) | exact HR512.out)) | (with_reducible refine Kd.C_alloc ?_ _) | (with_reducible refine Kd.C_drewN ?_ _) | (with_reducible refine Kd.C_drew ?_))); (case side2 => exact HC512.out); rintro e w54 ⟨v518, rfl, ho0, hb⟩; refine ⟨_, rfl, ?_⟩; have n0_ := Aside0.mk (Kd.R_below (by (with_reducible repeat (first | apply Kd.R_alloc | apply Kd.R_drewN | apply Kd.R_drew)); exact HO504.out) hb); have n1_ := Aside0.mk (Kd.R_below (by (with_reducible repeat (first | apply Kd.R_alloc | apply Kd.R_drewN | apply Kd.R_drew)); exact HO507.out) hb); have n2_ := Aside0.mk (Kd.R_lower ho0 (below_size (by repeat (first | (with_reducible first | exact HB.out | apply below_alloc | apply pw_below_drewN | apply below_drew1 | refine below_set ?_ GE494.out) | exact HB.out)))); have n3_ := Aside0.mk (blk_below (g := gb494) (o := .cells #[.bool a0_0, .int .i64 a0_1, .bool a0_2, .int .i64 a0_3, .slice A0_4 l0_4.length c0_4] 24 (0, 0)) (by (with_reducible repeat (first | refine blk_drewN ?_ _ | refine blk_drew ?_ | refine blk_alloc ?_ _)); exact BK494.out) hb); have n4_ := Aside0.mk (Kd.C_below (by repeat (first | (with_reducible exact HR512.out) | (with_reducible refine Kd.C_alloc ?_ _) | (with_reducible refine Kd.C_drewN ?_ _) | (with_reducible refine Kd.C_drew ?_) | exact HR512.out)) hb); have n5_ := Aside0.mk (below_step (by repeat (first | (with_reducible first | exact HB.out | apply below_alloc | apply pw_below_drewN | apply below_drew1 | refine below_set ?_ GE494.out) | exact HB.out)) hb); clear HO504; clear HO507; clear BK494; clear HR512; clear HB; have HO504 := n0_; have HO507 := n1_; have HO519 := n2_; have BK494 := n3_; have HR512 := n4_; have HB := n5_; clear n0_ n1_ n2_ n3_ n4_ n5_; (try clear hb); (try clear hb2); (try clear hk); (try clear hi); (try clear ho0)) | ((with_reducible refine gate_dst (N := 10) rfl ?_); (try (refine gate_guard (by rfl) ?_; dsimp only)); refine box_event ?hg (N := 10) ?hd (cs := #[.bool false, .int .i64 0, .bool false, .int .i64 0, .slice none 0 0]) (t := 24) ?hr ?_; (case hd => rfl); (case hg => rfl); (case hr => first | (go_simp; done) | (go_simp; rfl)); intro gb522 hg w55 hbox hb; have n0_ := Aside0.mk (Kd.R_below (by (with_reducible repeat (first | apply Kd.R_alloc | apply Kd.R_drewN | apply Kd.R_drew)); exact HO504.out) hb); have n1_ := Aside0.mk (Kd.R_below (by (with_reducible repeat (first | apply Kd.R_alloc | apply Kd.R_drewN | apply Kd.R_drew)); exact HO507.out) hb); have n2_ := Aside0.mk (Kd.R_below (by (with_reducible repeat (first | apply Kd.R_alloc | apply Kd.R_drewN | apply Kd.R_drew)); exact HO519.out) hb); have n3_ := Aside0.mk (blk_below (g := gb494) (o := .cells #[.bool a0_0, .int .i64 a0_1, .bool a0_2, .int .i64 a0_3, .slice A0_4 l0_4.length c0_4] 24 (0, 0)) (by (with_reducible repeat (first | refine blk_drewN ?_ _ | refine blk_drew ?_ | refine blk_alloc ?_ _)); exact BK494.out) hb); have n4_ := Aside0.mk (Kd.C_below (by repeat (first | (with_reducible exact HR512.out) | (with_reducible refine Kd.C_alloc ?_ _) | (with_reducible refine Kd.C_drewN ?_ _) | (with_reducible refine Kd.C_drew ?_) | exact HR512.out)) hb); have n5_ := Aside0.mk (below_step (by repeat (first | (with_reducible first | exact HB.out | apply below_alloc | apply pw_below_drewN | apply below_drew1 | refine below_set ?_ GE494.out) | exact HB.out)) hb); have n6_ := Aside0.mk (hbox); have n7_ := Aside0.mk ((by rw [hg]; exact (below_size (by repeat (first | (with_reducible first | exact HB.out | apply below_alloc | apply pw_below_drewN | apply below_drew1 | refine below_set ?_ GE494.out) | exact HB.out))) : w.heap.size ≤ gb522)); have n8_ := Aside0.mk ((by rw [hg]; exact (below_size (by repeat (first | (with_reducible first | exact HB.out | apply below_alloc | apply pw_below_drewN | apply below_drew1 | refine below_set ?_ GE494.out) | exact HB.out))) : w.heap.size ≤ gb522)); have n9_ := Aside0.mk ((by rw [hg]; exact Nat.ne_of_lt (blk_lt (g := gb494) (o := .cells #[.bool a0_0, .int .i64 a0_1, .bool a0_2, .int .i64 a0_3, .slice A0_4 l0_4.length c0_4] 24 (0, 0)) (by (with_reducible repeat (first | refine blk_drewN ?_ _ | refine blk_drew ?_ | refine blk_alloc ?_ _)); exact BK494.out)) : gb494 ≠ gb522)); have n10_ := Aside0.mk ((by rw [hg]; exact Nat.ne_of_gt (blk_lt (g := gb494) (o := .cells #[.bool a0_0, .int .i64 a0_1, .bool a0_2, .int .i64 a0_3, .slice A0_4 l0_4.length c0_4] 24 (0, 0)) (by (with_reducible repeat (first | refine blk_drewN ?_ _ | refine blk_drew ?_ | refine blk_alloc ?_ _)); exact BK494.out)) : gb522 ≠ gb494)); clear HO504; clear HO507; clear HO519; clear BK494; clear HR512; clear HB; have HO504 := n0_; have HO507 := n1_; have HO519 := n2_; have BK494 := n3_; have HR512 := n4_; have HB := n5_; have BK522 := n6_; have GW522 := n7_; have GE522 := n8_; have NB494_522 := n9_; have NB522_494 := n10_; clear n0_ n1_ n2_ n3_ n4_ n5_ n6_ n7_ n8_ n9_ n10_; clear hb hbox hg; have hnb56 := NB522_494.out; have hnc56 := NB494_522.out; have hcz57_0 : w55.cell? ⟨gb522, 0, none⟩ = some (.bool false) := (blk_cell BK522.out 0).trans rfl; have hcz57_1 : w55.cell? ⟨gb522, 1, none⟩ = some (.int .i64 0) := (blk_cell BK522.out 1).trans rfl; have hcz57_2 : w55.cell? ⟨gb522, 2, none⟩ = some (.bool false) := (blk_cell BK522.out 2).trans rfl; have hcz57_3 : w55.cell? ⟨gb522, 3, none⟩ = some (.int .i64 0) := (blk_cell BK522.out 3).trans rfl; have hcz57_4 : w55.cell? ⟨gb522, 4, none⟩ = some (.slice none 0 0) := (blk_cell BK522.out 4).trans rfl; have hfz57_0 := blk_frozen BK522.out 0; have hfz57_1 := blk_frozen BK522.out 1; have hfz57_2 := blk_frozen BK522.out 2; have hfz57_3 := blk_frozen BK522.out 3; have hfz57_4 := blk_frozen BK522.out 4; obtain ⟨Ao58, co58, eo58⟩ := Kd.R_slice HO519.out; subst eo58) | ((with_reducible refine gate_callee (f := 21) rfl ?_); refine goesL_ (some 63) rfl rfl Try.func21 (by kernel_rfl) rfl #[.slice A2 l2.length c2] rfl (by (try simp only [List.map_toArray, List.map_cons, List.map_nil]); first | done | rfl | (simp only [List.length_drop, List.length_take]; rfl)) ?_; (with_reducible refine (wire_Read.calls _ _ l2 t523 t524 t525 t526 t527 t530 t531 _ ?side1 ?side2 A42.out).mono ?_); (case side1 => exact Kd.C_below HR2.out (by repeat (first | (with_reducible first | exact HB.out | apply below_alloc | apply pw_below_drewN | apply below_drew1 | refine below_set ?_ GE494.out | refine below_set ?_ GE522.out) | exact HB.out))); (case side2 => exact HC2.out); rintro e w59 ⟨v528, rfl, ho0, hb⟩; refine ⟨_, rfl, ?_⟩; have n0_ := Aside0.mk (Kd.R_below (by (with_reducible repeat (first | apply Kd.R_alloc | apply Kd.R_drewN | apply Kd.R_drew)); exact (HW.R_far5 HO504.out BK522.out (by decide))) hb); have n1_ := Aside0.mk (Kd.R_below (by (with_reducible repeat (first | apply Kd.R_alloc | apply Kd.R_drewN | apply Kd.R_drew)); exact (HW.R_far5 HO507.out BK522.out (by decide))) hb); have n2_ := Aside0.mk (Kd.R_elder' (by (with_reducible repeat (first | apply Kd.R_alloc | apply Kd.R_drewN | apply Kd.R_drew)); exact (HW.R_far5 HO519.out BK522.out (by decide))) (Kd.R_base ho0) hb); have n3_ := Aside0.mk (Kd.R_lower (Kd.R_new' ho0 (Kd.R_lt (by (with_reducible repeat (first | apply Kd.R_alloc | apply Kd.R_drewN | apply Kd.R_drew)); exact (HW.R_far5 HO519.out BK522.out (by decide))))) (below_size (by repeat (first | (with_reducible first | exact HB.out | apply below_alloc | apply pw_below_drewN | apply below_drew1 | refine below_set ?_ GE494.out | refine below_set ?_ GE522.out) | exact HB.out)))); have n4_ := Aside0.mk (blk_below (g := gb494) (o := .cells #[.bool a0_0, .int .i64 a0_1, .bool a0_2, .int .i64 a0_3, .slice A0_4 l0_4.length c0_4] 24 (0, 0)) (by (with_reducible repeat (first | refine blk_drewN ?_ _ | refine blk_drew ?_ | refine blk_alloc ?_ _)); refine HW.blk_far5 ?_ NB494_522.out; (with_reducible repeat (first | refine blk_drewN ?_ _ | refine blk_drew ?_ | refine blk_alloc ?_ _)); exact BK494.out) hb); have n5_ := Aside0.mk (blk_below (g := gb522) (o := .cells #[.bool t513, .int .i64 t514, .bool t515, .int .i64 t516, .slice Ao58 t517.length co58] 24 (0, 0)) (by (with_reducible repeat (first | refine blk_drewN ?_ _ | refine blk_drew ?_ | refine blk_alloc ?_ _)); refine HW.blk_put5 (cs := #[.bool false, .int .i64 0, .bool false, .int .i64 0, .slice none 0 0]) ?_ rfl; (with_reducible repeat (first | refine blk_drewN ?_ _ | refine blk_drew ?_ | refine blk_alloc ?_ _)); exact BK522.out) hb); have n6_ := Aside0.mk (below_step (by repeat (first | (with_reducible first | exact HB.out | apply below_alloc | apply pw_below_drewN | apply below_drew1 | refine below_set ?_ GE494.out | refine below_set ?_ GE522.out) | exact HB.out)) hb); clear HO504; clear HO507; clear HO519; clear BK494; clear BK522; clear HB; have HO504 := n0_; have HO507 := n1_; have HO519 := n2_; have HO529 := n3_; have BK494 := n4_; have BK522 := n5_; have HB := n6_; clear n0_ n1_ n2_ n3_ n4_ n5_ n6_; (try clear hb); (try clear hb2); (try clear hk); (try clear hi); (try clear ho0)) | ((with_reducible refine gate_dst (N := 13) rfl ?_); (try (refine gate_guard (by rfl) ?_; dsimp only)); refine box_event ?hg (N := 13) ?hd (cs := #[.bool false, .int .i64 0, .bool false, .int .i64 0, .slice none 0 0]) (t := 24) ?hr ?_; (case hd => rfl); (case hg => rfl); (case hr => first | (go_simp; done) | (go_simp; rfl)); intro gb532 hg w60 hbox hb; have n0_ := Aside0.mk (Kd.R_below (by (with_reducible repeat (first | apply Kd.R_alloc | apply Kd.R_drewN | apply Kd.R_drew)); exact HO504.out) hb); have n1_ := Aside0.mk (Kd.R_below (by (with_reducible repeat (first | apply Kd.R_alloc | apply Kd.R_drewN | apply Kd.R_drew)); exact HO507.out) hb); have n2_ := Aside0.mk (Kd.R_below (by (with_reducible repeat (first | apply Kd.R_alloc | apply Kd.R_drewN | apply Kd.R_drew)); exact HO519.out) hb); have n3_ := Aside0.mk (Kd.R_below (by (with_reducible repeat (first | apply Kd.R_alloc | apply Kd.R_drewN | apply Kd.R_drew)); exact HO529.out) hb); have n4_ := Aside0.mk (blk_below (g := gb494) (o := .cells #[.bool a0_0, .int .i64 a0_1, .bool a0_2, .int .i64 a0_3, .slice A0_4 l0_4.length c0_4] 24 (0, 0)) (by (with_reducible repeat (first | refine blk_drewN ?_ _ | refine blk_drew ?_ | refine blk_alloc ?_ _)); exact BK494.out) hb); have n5_ := Aside0.mk (blk_below (g := gb522) (o := .cells #[.bool t513, .int .i64 t514, .bool t515, .int .i64 t516, .slice Ao58 t517.length co58] 24 (0, 0)) (by (with_reducible repeat (first | refine blk_drewN ?_ _ | refine blk_drew ?_ | refine blk_alloc ?_ _)); exact BK522.out) hb); have n6_ := Aside0.mk (below_step (by repeat (first | (with_reducible first | exact HB.out | apply below_alloc | apply pw_below_drewN | apply below_drew1 | refine below_set ?_ GE494.out | refine below_set ?_ GE522.out) | exact HB.out)) hb); have n7_ := Aside0.mk (hbox); have n8_ := Aside0.mk ((by rw [hg]; exact (below_size (by repeat (first | (with_reducible first | exact HB.out | apply below_alloc | apply pw_below_drewN | apply below_drew1 | refine below_set ?_ GE494.out | refine below_set ?_ GE522.out) | exact HB.out))) : w.heap.size ≤ gb532)); have n9_ := Aside0.mk ((by rw [hg]; exact (below_size (by repeat (first | (with_reducible first | exact HB.out | apply below_alloc | apply pw_below_drewN | apply below_drew1 | refine below_set ?_ GE494.out | refine below_set ?_ GE522.out) | exact HB.out))) : w.heap.size ≤ gb532)); have n10_ := Aside0.mk ((by rw [hg]; exact Nat.ne_of_lt (blk_lt (g := gb494) (o := .cells #[.bool a0_0, .int .i64 a0_1, .bool a0_2, .int .i64 a0_3, .slice A0_4 l0_4.length c0_4] 24 (0, 0)) (by (with_reducible repeat (first | refine blk_drewN ?_ _ | refine blk_drew ?_ | refine blk_alloc ?_ _)); exact BK494.out)) : gb494 ≠ gb532)); have n11_ := Aside0.mk ((by rw [hg]; exact Nat.ne_of_gt (blk_lt (g := gb494) (o := .cells #[.bool a0_0, .int .i64 a0_1, .bool a0_2, .int .i64 a0_3, .slice A0_4 l0_4.length c0_4] 24 (0, 0)) (by (with_reducible repeat (first | refine blk_drewN ?_ _ | refine blk_drew ?_ | refine blk_alloc ?_ _)); exact BK494.out)) : gb532 ≠ gb494)); have n12_ := Aside0.mk ((by rw [hg]; exact Nat.ne_of_lt (blk_lt (g := gb522) (o := .cells #[.bool t513, .int .i64 t514, .bool t515, .int .i64 t516, .slice Ao58 t517.length co58] 24 (0, 0)) (by (with_reducible repeat (first | refine blk_drewN ?_ _ | refine blk_drew ?_ | refine blk_alloc ?_ _)); exact BK522.out)) : gb522 ≠ gb532)); have n13_ := Aside0.mk ((by rw [hg]; exact Nat.ne_of_gt (blk_lt (g := gb522) (o := .cells #[.bool t513, .int .i64 t514, .bool t515, .int .i64 t516, .slice Ao58 t517.length co58] 24 (0, 0)) (by (with_reducible repeat (first | refine blk_drewN ?_ _ | refine blk_drew ?_ | refine blk_alloc ?_ _)); exact BK522.out)) : gb532 ≠ gb522)); clear HO504; clear HO507; clear HO519; clear HO529; clear BK494; clear BK522; clear HB; have HO504 := n0_; have HO507 := n1_; have HO519 := n2_; have HO529 := n3_; have BK494 := n4_; have BK522 := n5_; have HB := n6_; have BK532 := n7_; have GW532 := n8_; have GE532 := n9_; have NB494_532 := n10_; have NB532_494 := n11_; have NB522_532 := n12_; have NB532_522 := n13_; clear n0_ n1_ n2_ n3_ n4_ n5_ n6_ n7_ n8_ n9_ n10_ n11_ n12_ n13_; clear hb hbox hg; have hnb61 := NB532_494.out; have hnc61 := NB494_532.out; have hnb62 := NB532_522.out; have hnc62 := NB522_532.out; have hcz63_0 : w60.cell? ⟨gb532, 0, none⟩ = some (.bool false) := (blk_cell BK532.out 0).trans rfl; have hcz63_1 : w60.cell? ⟨gb532, 1, none⟩ = some (.int .i64 0) := (blk_cell BK532.out 1).trans rfl; have hcz63_2 : w60.cell? ⟨gb532, 2, none⟩ = some (.bool false) := (blk_cell BK532.out 2).trans rfl; have hcz63_3 : w60.cell? ⟨gb532, 3, none⟩ = some (.int .i64 0) := (blk_cell BK532.out 3).trans rfl; have hcz63_4 : w60.cell? ⟨gb532, 4, none⟩ = some (.slice none 0 0) := (blk_cell BK532.out 4).trans rfl; have hfz63_0 := blk_frozen BK532.out 0; have hfz63_1 := blk_frozen BK532.out 1; have hfz63_2 := blk_frozen BK532.out 2; have hfz63_3 := blk_frozen BK532.out 3; have hfz63_4 := blk_frozen BK532.out 4; obtain ⟨Ao64, co64, eo64⟩ := Kd.R_slice HO529.out; subst eo64))
           (try simp only [Act.put, List.setIfInBounds_toArray, List.set_cons_zero, List.set_cons_succ])
           go_cut [79] (fun v79 wc => ∃ (kq : Nat) (x79_42 : Bool), v79 = .bool x79_42 ∧ Aside0 (phaetonlaw05_WireShort.j1 kq l2 t495 t530 t531 x79_42 t523 t524 t525 t526 t527 = some r) ∧ Aside0 (kq ≤ kj4) ∧ Aside0 (Kd.R (Kd.int .u8) 5 wc w.heap.size (fun k_ => some k_ ≠ ((.slice Ao64 t527.length co64) : Value).ownBlock) (.slice Ao58 t517.length co58) t517) ∧ Aside0 (Kd.R (Kd.int .u8) 5 wc w.heap.size (fun k_ => some k_ ≠ ((.slice Ao58 t517.length co58) : Value).ownBlock) (.slice Ao64 t527.length co64) t527) ∧ Aside0 (wc.heap[gb494]? = some (.cells #[.bool a0_0, .int .i64 a0_1, .bool a0_2, .int .i64 a0_3, (.slice A0_4 l0_4.length c0_4)] 24 (0, 0))) ∧ Aside0 (wc.heap[gb522]? = some (.cells #[.bool t513, .int .i64 t514, .bool t515, .int .i64 t516, (.slice Ao58 t517.length co58)] 24 (0, 0))) ∧ Aside0 (wc.heap[gb532]? = some (.cells #[.bool t523, .int .i64 t524, .bool t525, .int .i64 t526, (.slice Ao64 t527.length co64)] 24 (0, 0))) ∧ Aside0 (Below w.heap.size w wc))
           case first =>
            have H := HC43.out
            clear HC43
            replace H := Option.bind_eq_some_iff.mp H
            obtain ⟨t533, A650, H⟩ := H
            replace H : (if t533 = true then (if t520 = 1 then (phaetonlaw05_WireShort.j1 kj4 l2 t495 t530 t531 (t521 != (ji38)) t523 t524 t525 t526 t527) else (phaetonlaw05_WireShort.j1 kj4 l2 t495 t530 t531 true t523 t524 t525 t526 t527)) else (phaetonlaw05_WireShort.j1 kj4 l2 t495 t530 t531 true t523 t524 t525 t526 t527)) = some r := H
            have A65 := Aside0.mk A650
            clear A650
            by_cases c66 : t533 = true
            ·subst c66
             have H1 : (if t520 = 1 then (phaetonlaw05_WireShort.j1 kj4 l2 t495 t530 t531 (t521 != (ji38)) t523 t524 t525 t526 t527) else (phaetonlaw05_WireShort.j1 kj4 l2 t495 t530 t531 true t523 t524 t525 t526 t527)) = some r := by rw [if_pos rfl] at H; exact H
             clear H
             have H := H1
             clear H1
             by_cases c67 : t520 = 1
             ·rw [if_pos c67] at H
              have c67b0 : (t520 == 1) = true := beq_iff_eq.mpr c67
              have c67b1 : (t520 != 1) = false := bne_eq_false_iff_eq.mpr c67
              clear c67
              (first | rw [c67b0] | (simp only [i64_w, i32_w]; rw [c67b0]) | skip)
              have H' := Aside0.mk H
              clear H
              have hnb68 := NB522_494.out
              have hnc68 := NB494_522.out
              have hnb69 := NB522_532.out
              have hnc69 := NB532_522.out
              have hcz70_0 : w60.cell? ⟨gb522, 0, none⟩ = some (.bool t513) := (blk_cell BK522.out 0).trans rfl
              have hcz70_1 : w60.cell? ⟨gb522, 1, none⟩ = some (.int .i64 t514) := (blk_cell BK522.out 1).trans rfl
              have hcz70_2 : w60.cell? ⟨gb522, 2, none⟩ = some (.bool t515) := (blk_cell BK522.out 2).trans rfl
              have hcz70_3 : w60.cell? ⟨gb522, 3, none⟩ = some (.int .i64 t516) := (blk_cell BK522.out 3).trans rfl
              have hcz70_4 : w60.cell? ⟨gb522, 4, none⟩ = some (.slice Ao58 t517.length co58) := (blk_cell BK522.out 4).trans rfl
              have hfz70_0 := blk_frozen BK522.out 0
              have hfz70_1 := blk_frozen BK522.out 1
              have hfz70_2 := blk_frozen BK522.out 2
              have hfz70_3 := blk_frozen BK522.out 3
              have hfz70_4 := blk_frozen BK522.out 4
              go_wp2_with (first | ((with_reducible refine gate_store (t := 24) (p := 13) rfl ?_); refine HW.store_box2 rfl rfl 24 _ _ rfl rfl rfl BK532.out rfl (by kernel_rfl) (by intro q hq; simp only [List.mem_cons, List.not_mem_nil, or_false] at hq; rcases hq with rfl | rfl | rfl | rfl | rfl <;> rfl) ?_; intro w1_ hw1_ hk1_; simp only [List.toList_toArray, World.setCells, Nat.zero_add, Nat.reduceAdd] at hw1_; subst hw1_; have hcb532_0 := (blk_cell hk1_ 0).trans rfl; have hfb532_0 := blk_frozen hk1_ 0; have hcb532_1 := (blk_cell hk1_ 1).trans rfl; have hfb532_1 := blk_frozen hk1_ 1; have hcb532_2 := (blk_cell hk1_ 2).trans rfl; have hfb532_2 := blk_frozen hk1_ 2; have hcb532_3 := (blk_cell hk1_ 3).trans rfl; have hfb532_3 := blk_frozen hk1_ 3; have hcb532_4 := (blk_cell hk1_ 4).trans rfl; have hfb532_4 := blk_frozen hk1_ 4; clear hk1_) | ((with_reducible refine gate_store (t := 24) (p := 10) rfl ?_); refine HW.store_box2 rfl rfl 24 _ _ rfl rfl rfl BK522.out rfl (by kernel_rfl) (by intro q hq; simp only [List.mem_cons, List.not_mem_nil, or_false] at hq; rcases hq with rfl | rfl | rfl | rfl | rfl <;> rfl) ?_; intro w1_ hw1_ hk1_; simp only [List.toList_toArray, World.setCells, Nat.zero_add, Nat.reduceAdd] at hw1_; subst hw1_; have hcb522_0 := (blk_cell hk1_ 0).trans rfl; have hfb522_0 := blk_frozen hk1_ 0; have hcb522_1 := (blk_cell hk1_ 1).trans rfl; have hfb522_1 := blk_frozen hk1_ 1; have hcb522_2 := (blk_cell hk1_ 2).trans rfl; have hfb522_2 := blk_frozen hk1_ 2; have hcb522_3 := (blk_cell hk1_ 3).trans rfl; have hfb522_3 := blk_frozen hk1_ 3; have hcb522_4 := (blk_cell hk1_ 4).trans rfl; have hfb522_4 := blk_frozen hk1_ 4; clear hk1_) | ((with_reducible refine gate_store (t := 24) (p := 3) rfl ?_); refine HW.store_box2 rfl rfl 24 _ _ rfl rfl rfl BK494.out rfl (by kernel_rfl) (by intro q hq; simp only [List.mem_cons, List.not_mem_nil, or_false] at hq; rcases hq with rfl | rfl | rfl | rfl | rfl <;> rfl) ?_; intro w1_ hw1_ hk1_; simp only [List.toList_toArray, World.setCells, Nat.zero_add, Nat.reduceAdd] at hw1_; subst hw1_; have hcb494_0 := (blk_cell hk1_ 0).trans rfl; have hfb494_0 := blk_frozen hk1_ 0; have hcb494_1 := (blk_cell hk1_ 1).trans rfl; have hfb494_1 := blk_frozen hk1_ 1; have hcb494_2 := (blk_cell hk1_ 2).trans rfl; have hfb494_2 := blk_frozen hk1_ 2; have hcb494_3 := (blk_cell hk1_ 3).trans rfl; have hfb494_3 := blk_frozen hk1_ 3; have hcb494_4 := (blk_cell hk1_ 4).trans rfl; have hfb494_4 := blk_frozen hk1_ 4; clear hk1_) | ((with_reducible refine gate_callee (f := 23) rfl ?_); refine goesL_ (some 69) rfl rfl Try.func23 (by kernel_rfl) rfl #[.agg #[.bool t513, .int .i64 t514, .bool t515, .int .i64 t516, .slice Ao58 t517.length co58], .agg #[.bool false, .int .i64 0, .bool false, .int .i64 0, .slice none 0 0]] rfl (by (try simp only [List.map_toArray, List.map_cons, List.map_nil]); first | done | rfl | (simp only [List.length_drop, List.length_take]; rfl)) ?_; (refine (phaetonref04_Same.calls t513 t514 t515 t516 _ _ t517 false 0 false 0 _ _ ([] : List Int) true _ ?side1 ?side2 ?side3 ?side4 A65.out).mono ?_); (case side1 => refine (Kd.R_reads' (e := 5) (base := w.heap.size) (ok := fun k_ => (True ∧ some k_ ≠ (.slice Ao64 t527.length co64 : Value).ownBlock)) (n := t517.length) (c := co58) ?_).2.2; exact (by (with_reducible repeat (first | apply Kd.R_alloc | apply Kd.R_drewN | apply Kd.R_drew)); exact (HW.R_far5 HO519.out BK532.out (by decide)))); (case side2 => exact (Kd.R_reads' HO519.out).2.1); (case side3 => exact Kd.C_nil _ _); (case side4 => exact Nat.le_refl _); rintro e w71 ⟨rfl, hb⟩; refine ⟨_, rfl, ?_⟩; have n0_ := Aside0.mk (Kd.R_below (by (with_reducible repeat (first | apply Kd.R_alloc | apply Kd.R_drewN | apply Kd.R_drew)); exact (HW.R_far5 HO504.out BK532.out (by decide))) hb); have n1_ := Aside0.mk (Kd.R_below (by (with_reducible repeat (first | apply Kd.R_alloc | apply Kd.R_drewN | apply Kd.R_drew)); exact (HW.R_far5 HO507.out BK532.out (by decide))) hb); have n2_ := Aside0.mk (Kd.R_below (by (with_reducible repeat (first | apply Kd.R_alloc | apply Kd.R_drewN | apply Kd.R_drew)); exact (HW.R_far5 HO519.out BK532.out (by decide))) hb); have n3_ := Aside0.mk (Kd.R_below (by (with_reducible repeat (first | apply Kd.R_alloc | apply Kd.R_drewN | apply Kd.R_drew)); exact (HW.R_far5 HO529.out BK532.out (by decide))) hb); have n4_ := Aside0.mk (blk_below (g := gb494) (o := .cells #[.bool a0_0, .int .i64 a0_1, .bool a0_2, .int .i64 a0_3, .slice A0_4 l0_4.length c0_4] 24 (0, 0)) (by (with_reducible repeat (first | refine blk_drewN ?_ _ | refine blk_drew ?_ | refine blk_alloc ?_ _)); refine HW.blk_far5 ?_ NB494_532.out; (with_reducible repeat (first | refine blk_drewN ?_ _ | refine blk_drew ?_ | refine blk_alloc ?_ _)); exact BK494.out) hb); have n5_ := Aside0.mk (blk_below (g := gb522) (o := .cells #[.bool t513, .int .i64 t514, .bool t515, .int .i64 t516, .slice Ao58 t517.length co58] 24 (0, 0)) (by (with_reducible repeat (first | refine blk_drewN ?_ _ | refine blk_drew ?_ | refine blk_alloc ?_ _)); refine HW.blk_far5 ?_ NB522_532.out; (with_reducible repeat (first | refine blk_drewN ?_ _ | refine blk_drew ?_ | refine blk_alloc ?_ _)); exact BK522.out) hb); have n6_ := Aside0.mk (blk_below (g := gb532) (o := .cells #[.bool t523, .int .i64 t524, .bool t525, .int .i64 t526, .slice Ao64 t527.length co64] 24 (0, 0)) (by (with_reducible repeat (first | refine blk_drewN ?_ _ | refine blk_drew ?_ | refine blk_alloc ?_ _)); refine HW.blk_put5 (cs := #[.bool false, .int .i64 0, .bool false, .int .i64 0, .slice none 0 0]) ?_ rfl; (with_reducible repeat (first | refine blk_drewN ?_ _ | refine blk_drew ?_ | refine blk_alloc ?_ _)); exact BK532.out) hb); have n7_ := Aside0.mk (below_step (by repeat (first | (with_reducible first | exact HB.out | apply below_alloc | apply pw_below_drewN | apply below_drew1 | refine below_set ?_ GE494.out | refine below_set ?_ GE522.out | refine below_set ?_ GE532.out) | exact HB.out)) hb); clear HO504; clear HO507; clear HO519; clear HO529; clear BK494; clear BK522; clear BK532; clear HB; have HO504 := n0_; have HO507 := n1_; have HO519 := n2_; have HO529 := n3_; have BK494 := n4_; have BK522 := n5_; have BK532 := n6_; have HB := n7_; clear n0_ n1_ n2_ n3_ n4_ n5_ n6_ n7_; (try clear hb); (try clear hb2); (try clear hk); (try clear hi)))
              go_meet
              case rel => exact ⟨_, ((t521 != (ji38))), (by first | rfl | (simp; done) | (simp only [← hji38] <;> (first | rfl | simp)) | (simp [*]; done)), H', ⟨by have := HJ4.out; first | omega | exact Nat.le_refl _⟩, ⟨by (with_reducible repeat (first | apply Kd.R_alloc | apply Kd.R_drewN | apply Kd.R_drew)); exact Kd.R_mono HO519.out (fun _ hk => hk.2)⟩, ⟨by (with_reducible repeat (first | apply Kd.R_alloc | apply Kd.R_drewN | apply Kd.R_drew)); exact Kd.R_mono HO529.out (fun _ hk => hk.2)⟩, ⟨by (with_reducible repeat (first | refine blk_drewN ?_ _ | refine blk_drew ?_ | refine blk_alloc ?_ _)); exact BK494.out⟩, ⟨by (with_reducible repeat (first | refine blk_drewN ?_ _ | refine blk_drew ?_ | refine blk_alloc ?_ _)); exact BK522.out⟩, ⟨by (with_reducible repeat (first | refine blk_drewN ?_ _ | refine blk_drew ?_ | refine blk_alloc ?_ _)); exact BK532.out⟩, ⟨by repeat (first | (with_reducible first | exact HB.out | apply below_alloc | apply pw_below_drewN | apply below_drew1 | refine below_set ?_ GE494.out | refine below_set ?_ GE522.out | refine below_set ?_ GE532.out) | exact HB.out)⟩⟩
             ·rw [if_neg c67] at H
              have c67b0 : (t520 == 1) = false := beq_eq_false_iff_ne.mpr c67
              have c67b1 : (t520 != 1) = true := bne_iff_ne.mpr c67
              (first | rw [c67b0] | (simp only [i64_w, i32_w]; rw [c67b0]) | skip)
              have H' := Aside0.mk H
              clear H
              have hnb72 := NB522_494.out
              have hnc72 := NB494_522.out
              have hnb73 := NB522_532.out
              have hnc73 := NB532_522.out
              have hcz74_0 : w60.cell? ⟨gb522, 0, none⟩ = some (.bool t513) := (blk_cell BK522.out 0).trans rfl
              have hcz74_1 : w60.cell? ⟨gb522, 1, none⟩ = some (.int .i64 t514) := (blk_cell BK522.out 1).trans rfl
              have hcz74_2 : w60.cell? ⟨gb522, 2, none⟩ = some (.bool t515) := (blk_cell BK522.out 2).trans rfl
              have hcz74_3 : w60.cell? ⟨gb522, 3, none⟩ = some (.int .i64 t516) := (blk_cell BK522.out 3).trans rfl
              have hcz74_4 : w60.cell? ⟨gb522, 4, none⟩ = some (.slice Ao58 t517.length co58) := (blk_cell BK522.out 4).trans rfl
              have hfz74_0 := blk_frozen BK522.out 0
              have hfz74_1 := blk_frozen BK522.out 1
              have hfz74_2 := blk_frozen BK522.out 2
              have hfz74_3 := blk_frozen BK522.out 3
              have hfz74_4 := blk_frozen BK522.out 4
              go_wp2_with (first | ((with_reducible refine gate_store (t := 24) (p := 13) rfl ?_); refine HW.store_box2 rfl rfl 24 _ _ rfl rfl rfl BK532.out rfl (by kernel_rfl) (by intro q hq; simp only [List.mem_cons, List.not_mem_nil, or_false] at hq; rcases hq with rfl | rfl | rfl | rfl | rfl <;> rfl) ?_; intro w1_ hw1_ hk1_; simp only [List.toList_toArray, World.setCells, Nat.zero_add, Nat.reduceAdd] at hw1_; subst hw1_; have hcb532_0 := (blk_cell hk1_ 0).trans rfl; have hfb532_0 := blk_frozen hk1_ 0; have hcb532_1 := (blk_cell hk1_ 1).trans rfl; have hfb532_1 := blk_frozen hk1_ 1; have hcb532_2 := (blk_cell hk1_ 2).trans rfl; have hfb532_2 := blk_frozen hk1_ 2; have hcb532_3 := (blk_cell hk1_ 3).trans rfl; have hfb532_3 := blk_frozen hk1_ 3; have hcb532_4 := (blk_cell hk1_ 4).trans rfl; have hfb532_4 := blk_frozen hk1_ 4; clear hk1_) | ((with_reducible refine gate_store (t := 24) (p := 10) rfl ?_); refine HW.store_box2 rfl rfl 24 _ _ rfl rfl rfl BK522.out rfl (by kernel_rfl) (by intro q hq; simp only [List.mem_cons, List.not_mem_nil, or_false] at hq; rcases hq with rfl | rfl | rfl | rfl | rfl <;> rfl) ?_; intro w1_ hw1_ hk1_; simp only [List.toList_toArray, World.setCells, Nat.zero_add, Nat.reduceAdd] at hw1_; subst hw1_; have hcb522_0 := (blk_cell hk1_ 0).trans rfl; have hfb522_0 := blk_frozen hk1_ 0; have hcb522_1 := (blk_cell hk1_ 1).trans rfl; have hfb522_1 := blk_frozen hk1_ 1; have hcb522_2 := (blk_cell hk1_ 2).trans rfl; have hfb522_2 := blk_frozen hk1_ 2; have hcb522_3 := (blk_cell hk1_ 3).trans rfl; have hfb522_3 := blk_frozen hk1_ 3; have hcb522_4 := (blk_cell hk1_ 4).trans rfl; have hfb522_4 := blk_frozen hk1_ 4; clear hk1_) | ((with_reducible refine gate_store (t := 24) (p := 3) rfl ?_); refine HW.store_box2 rfl rfl 24 _ _ rfl rfl rfl BK494.out rfl (by kernel_rfl) (by intro q hq; simp only [List.mem_cons, List.not_mem_nil, or_false] at hq; rcases hq with rfl | rfl | rfl | rfl | rfl <;> rfl) ?_; intro w1_ hw1_ hk1_; simp only [List.toList_toArray, World.setCells, Nat.zero_add, Nat.reduceAdd] at hw1_; subst hw1_; have hcb494_0 := (blk_cell hk1_ 0).trans rfl; have hfb494_0 := blk_frozen hk1_ 0; have hcb494_1 := (blk_cell hk1_ 1).trans rfl; have hfb494_1 := blk_frozen hk1_ 1; have hcb494_2 := (blk_cell hk1_ 2).trans rfl; have hfb494_2 := blk_frozen hk1_ 2; have hcb494_3 := (blk_cell hk1_ 3).trans rfl; have hfb494_3 := blk_frozen hk1_ 3; have hcb494_4 := (blk_cell hk1_ 4).trans rfl; have hfb494_4 := blk_frozen hk1_ 4; clear hk1_) | ((with_reducible refine gate_callee (f := 23) rfl ?_); refine goesL_ (some 69) rfl rfl Try.func23 (by kernel_rfl) rfl #[.agg #[.bool t513, .int .i64 t514, .bool t515, .int .i64 t516, .slice Ao58 t517.length co58], .agg #[.bool false, .int .i64 0, .bool false, .int .i64 0, .slice none 0 0]] rfl (by (try simp only [List.map_toArray, List.map_cons, List.map_nil]); first | done | rfl | (simp only [List.length_drop, List.length_take]; rfl)) ?_; (refine (phaetonref04_Same.calls t513 t514 t515 t516 _ _ t517 false 0 false 0 _ _ ([] : List Int) true _ ?side1 ?side2 ?side3 ?side4 A65.out).mono ?_); (case side1 => refine (Kd.R_reads' (e := 5) (base := w.heap.size) (ok := fun k_ => (True ∧ some k_ ≠ (.slice Ao64 t527.length co64 : Value).ownBlock)) (n := t517.length) (c := co58) ?_).2.2; exact (by (with_reducible repeat (first | apply Kd.R_alloc | apply Kd.R_drewN | apply Kd.R_drew)); exact (HW.R_far5 HO519.out BK532.out (by decide)))); (case side2 => exact (Kd.R_reads' HO519.out).2.1); (case side3 => exact Kd.C_nil _ _); (case side4 => exact Nat.le_refl _); rintro e w75 ⟨rfl, hb⟩; refine ⟨_, rfl, ?_⟩; have n0_ := Aside0.mk (Kd.R_below (by (with_reducible repeat (first | apply Kd.R_alloc | apply Kd.R_drewN | apply Kd.R_drew)); exact (HW.R_far5 HO504.out BK532.out (by decide))) hb); have n1_ := Aside0.mk (Kd.R_below (by (with_reducible repeat (first | apply Kd.R_alloc | apply Kd.R_drewN | apply Kd.R_drew)); exact (HW.R_far5 HO507.out BK532.out (by decide))) hb); have n2_ := Aside0.mk (Kd.R_below (by (with_reducible repeat (first | apply Kd.R_alloc | apply Kd.R_drewN | apply Kd.R_drew)); exact (HW.R_far5 HO519.out BK532.out (by decide))) hb); have n3_ := Aside0.mk (Kd.R_below (by (with_reducible repeat (first | apply Kd.R_alloc | apply Kd.R_drewN | apply Kd.R_drew)); exact (HW.R_far5 HO529.out BK532.out (by decide))) hb); have n4_ := Aside0.mk (blk_below (g := gb494) (o := .cells #[.bool a0_0, .int .i64 a0_1, .bool a0_2, .int .i64 a0_3, .slice A0_4 l0_4.length c0_4] 24 (0, 0)) (by (with_reducible repeat (first | refine blk_drewN ?_ _ | refine blk_drew ?_ | refine blk_alloc ?_ _)); refine HW.blk_far5 ?_ NB494_532.out; (with_reducible repeat (first | refine blk_drewN ?_ _ | refine blk_drew ?_ | refine blk_alloc ?_ _)); exact BK494.out) hb); have n5_ := Aside0.mk (blk_below (g := gb522) (o := .cells #[.bool t513, .int .i64 t514, .bool t515, .int .i64 t516, .slice Ao58 t517.length co58] 24 (0, 0)) (by (with_reducible repeat (first | refine blk_drewN ?_ _ | refine blk_drew ?_ | refine blk_alloc ?_ _)); refine HW.blk_far5 ?_ NB522_532.out; (with_reducible repeat (first | refine blk_drewN ?_ _ | refine blk_drew ?_ | refine blk_alloc ?_ _)); exact BK522.out) hb); have n6_ := Aside0.mk (blk_below (g := gb532) (o := .cells #[.bool t523, .int .i64 t524, .bool t525, .int .i64 t526, .slice Ao64 t527.length co64] 24 (0, 0)) (by (with_reducible repeat (first | refine blk_drewN ?_ _ | refine blk_drew ?_ | refine blk_alloc ?_ _)); refine HW.blk_put5 (cs := #[.bool false, .int .i64 0, .bool false, .int .i64 0, .slice none 0 0]) ?_ rfl; (with_reducible repeat (first | refine blk_drewN ?_ _ | refine blk_drew ?_ | refine blk_alloc ?_ _)); exact BK532.out) hb); have n7_ := Aside0.mk (below_step (by repeat (first | (with_reducible first | exact HB.out | apply below_alloc | apply pw_below_drewN | apply below_drew1 | refine below_set ?_ GE494.out | refine below_set ?_ GE522.out | refine below_set ?_ GE532.out) | exact HB.out)) hb); clear HO504; clear HO507; clear HO519; clear HO529; clear BK494; clear BK522; clear BK532; clear HB; have HO504 := n0_; have HO507 := n1_; have HO519 := n2_; have HO529 := n3_; have BK494 := n4_; have BK522 := n5_; have BK532 := n6_; have HB := n7_; clear n0_ n1_ n2_ n3_ n4_ n5_ n6_ n7_; (try clear hb); (try clear hb2); (try clear hk); (try clear hi)))
              go_meet
              case rel => exact ⟨_, (true), (by first | rfl | (simp; done) | (simp [*]; done)), H', ⟨by have := HJ4.out; first | omega | exact Nat.le_refl _⟩, ⟨by (with_reducible repeat (first | apply Kd.R_alloc | apply Kd.R_drewN | apply Kd.R_drew)); exact Kd.R_mono HO519.out (fun _ hk => hk.2)⟩, ⟨by (with_reducible repeat (first | apply Kd.R_alloc | apply Kd.R_drewN | apply Kd.R_drew)); exact Kd.R_mono HO529.out (fun _ hk => hk.2)⟩, ⟨by (with_reducible repeat (first | refine blk_drewN ?_ _ | refine blk_drew ?_ | refine blk_alloc ?_ _)); exact BK494.out⟩, ⟨by (with_reducible repeat (first | refine blk_drewN ?_ _ | refine blk_drew ?_ | refine blk_alloc ?_ _)); exact BK522.out⟩, ⟨by (with_reducible repeat (first | refine blk_drewN ?_ _ | refine blk_drew ?_ | refine blk_alloc ?_ _)); exact BK532.out⟩, ⟨by repeat (first | (with_reducible first | exact HB.out | apply below_alloc | apply pw_below_drewN | apply below_drew1 | refine below_set ?_ GE494.out | refine below_set ?_ GE522.out | refine below_set ?_ GE532.out) | exact HB.out)⟩⟩
            ·replace c66 := Bool.eq_false_iff.mpr c66
             subst c66
             have H1 : (phaetonlaw05_WireShort.j1 kj4 l2 t495 t530 t531 true t523 t524 t525 t526 t527) = some r := by rw [if_neg (show ¬ (false = true) by decide)] at H; exact H
             clear H
             have H := H1
             clear H1
             have H' := Aside0.mk H
             clear H
             have hnb76 := NB522_494.out
             have hnc76 := NB494_522.out
             have hnb77 := NB522_532.out
             have hnc77 := NB532_522.out
             have hcz78_0 : w60.cell? ⟨gb522, 0, none⟩ = some (.bool t513) := (blk_cell BK522.out 0).trans rfl
             have hcz78_1 : w60.cell? ⟨gb522, 1, none⟩ = some (.int .i64 t514) := (blk_cell BK522.out 1).trans rfl
             have hcz78_2 : w60.cell? ⟨gb522, 2, none⟩ = some (.bool t515) := (blk_cell BK522.out 2).trans rfl
             have hcz78_3 : w60.cell? ⟨gb522, 3, none⟩ = some (.int .i64 t516) := (blk_cell BK522.out 3).trans rfl
             have hcz78_4 : w60.cell? ⟨gb522, 4, none⟩ = some (.slice Ao58 t517.length co58) := (blk_cell BK522.out 4).trans rfl
             have hfz78_0 := blk_frozen BK522.out 0
             have hfz78_1 := blk_frozen BK522.out 1
             have hfz78_2 := blk_frozen BK522.out 2
             have hfz78_3 := blk_frozen BK522.out 3
             have hfz78_4 := blk_frozen BK522.out 4
             go_wp2_with (first | ((with_reducible refine gate_store (t := 24) (p := 13) rfl ?_); refine HW.store_box2 rfl rfl 24 _ _ rfl rfl rfl BK532.out rfl (by kernel_rfl) (by intro q hq; simp only [List.mem_cons, List.not_mem_nil, or_false] at hq; rcases hq with rfl | rfl | rfl | rfl | rfl <;> rfl) ?_; intro w1_ hw1_ hk1_; simp only [List.toList_toArray, World.setCells, Nat.zero_add, Nat.reduceAdd] at hw1_; subst hw1_; have hcb532_0 := (blk_cell hk1_ 0).trans rfl; have hfb532_0 := blk_frozen hk1_ 0; have hcb532_1 := (blk_cell hk1_ 1).trans rfl; have hfb532_1 := blk_frozen hk1_ 1; have hcb532_2 := (blk_cell hk1_ 2).trans rfl; have hfb532_2 := blk_frozen hk1_ 2; have hcb532_3 := (blk_cell hk1_ 3).trans rfl; have hfb532_3 := blk_frozen hk1_ 3; have hcb532_4 := (blk_cell hk1_ 4).trans rfl; have hfb532_4 := blk_frozen hk1_ 4; clear hk1_) | ((with_reducible refine gate_store (t := 24) (p := 10) rfl ?_); refine HW.store_box2 rfl rfl 24 _ _ rfl rfl rfl BK522.out rfl (by kernel_rfl) (by intro q hq; simp only [List.mem_cons, List.not_mem_nil, or_false] at hq; rcases hq with rfl | rfl | rfl | rfl | rfl <;> rfl) ?_; intro w1_ hw1_ hk1_; simp only [List.toList_toArray, World.setCells, Nat.zero_add, Nat.reduceAdd] at hw1_; subst hw1_; have hcb522_0 := (blk_cell hk1_ 0).trans rfl; have hfb522_0 := blk_frozen hk1_ 0; have hcb522_1 := (blk_cell hk1_ 1).trans rfl; have hfb522_1 := blk_frozen hk1_ 1; have hcb522_2 := (blk_cell hk1_ 2).trans rfl; have hfb522_2 := blk_frozen hk1_ 2; have hcb522_3 := (blk_cell hk1_ 3).trans rfl; have hfb522_3 := blk_frozen hk1_ 3; have hcb522_4 := (blk_cell hk1_ 4).trans rfl; have hfb522_4 := blk_frozen hk1_ 4; clear hk1_) | ((with_reducible refine gate_store (t := 24) (p := 3) rfl ?_); refine HW.store_box2 rfl rfl 24 _ _ rfl rfl rfl BK494.out rfl (by kernel_rfl) (by intro q hq; simp only [List.mem_cons, List.not_mem_nil, or_false] at hq; rcases hq with rfl | rfl | rfl | rfl | rfl <;> rfl) ?_; intro w1_ hw1_ hk1_; simp only [List.toList_toArray, World.setCells, Nat.zero_add, Nat.reduceAdd] at hw1_; subst hw1_; have hcb494_0 := (blk_cell hk1_ 0).trans rfl; have hfb494_0 := blk_frozen hk1_ 0; have hcb494_1 := (blk_cell hk1_ 1).trans rfl; have hfb494_1 := blk_frozen hk1_ 1; have hcb494_2 := (blk_cell hk1_ 2).trans rfl; have hfb494_2 := blk_frozen hk1_ 2; have hcb494_3 := (blk_cell hk1_ 3).trans rfl; have hfb494_3 := blk_frozen hk1_ 3; have hcb494_4 := (blk_cell hk1_ 4).trans rfl; have hfb494_4 := blk_frozen hk1_ 4; clear hk1_) | ((with_reducible refine gate_callee (f := 23) rfl ?_); refine goesL_ (some 69) rfl rfl Try.func23 (by kernel_rfl) rfl #[.agg #[.bool t513, .int .i64 t514, .bool t515, .int .i64 t516, .slice Ao58 t517.length co58], .agg #[.bool false, .int .i64 0, .bool false, .int .i64 0, .slice none 0 0]] rfl (by (try simp only [List.map_toArray, List.map_cons, List.map_nil]); first | done | rfl | (simp only [List.length_drop, List.length_take]; rfl)) ?_; (refine (phaetonref04_Same.calls t513 t514 t515 t516 _ _ t517 false 0 false 0 _ _ ([] : List Int) false _ ?side1 ?side2 ?side3 ?side4 A65.out).mono ?_); (case side1 => refine (Kd.R_reads' (e := 5) (base := w.heap.size) (ok := fun k_ => (True ∧ some k_ ≠ (.slice Ao64 t527.length co64 : Value).ownBlock)) (n := t517.length) (c := co58) ?_).2.2; exact (by (with_reducible repeat (first | apply Kd.R_alloc | apply Kd.R_drewN | apply Kd.R_drew)); exact (HW.R_far5 HO519.out BK532.out (by decide)))); (case side2 => exact (Kd.R_reads' HO519.out).2.1); (case side3 => exact Kd.C_nil _ _); (case side4 => exact Nat.le_refl _); rintro e w79 ⟨rfl, hb⟩; refine ⟨_, rfl, ?_⟩; have n0_ := Aside0.mk (Kd.R_below (by (with_reducible repeat (first | apply Kd.R_alloc | apply Kd.R_drewN | apply Kd.R_drew)); exact (HW.R_far5 HO504.out BK532.out (by decide))) hb); have n1_ := Aside0.mk (Kd.R_below (by (with_reducible repeat (first | apply Kd.R_alloc | apply Kd.R_drewN | apply Kd.R_drew)); exact (HW.R_far5 HO507.out BK532.out (by decide))) hb); have n2_ := Aside0.mk (Kd.R_below (by (with_reducible repeat (first | apply Kd.R_alloc | apply Kd.R_drewN | apply Kd.R_drew)); exact (HW.R_far5 HO519.out BK532.out (by decide))) hb); have n3_ := Aside0.mk (Kd.R_below (by (with_reducible repeat (first | apply Kd.R_alloc | apply Kd.R_drewN | apply Kd.R_drew)); exact (HW.R_far5 HO529.out BK532.out (by decide))) hb); have n4_ := Aside0.mk (blk_below (g := gb494) (o := .cells #[.bool a0_0, .int .i64 a0_1, .bool a0_2, .int .i64 a0_3, .slice A0_4 l0_4.length c0_4] 24 (0, 0)) (by (with_reducible repeat (first | refine blk_drewN ?_ _ | refine blk_drew ?_ | refine blk_alloc ?_ _)); refine HW.blk_far5 ?_ NB494_532.out; (with_reducible repeat (first | refine blk_drewN ?_ _ | refine blk_drew ?_ | refine blk_alloc ?_ _)); exact BK494.out) hb); have n5_ := Aside0.mk (blk_below (g := gb522) (o := .cells #[.bool t513, .int .i64 t514, .bool t515, .int .i64 t516, .slice Ao58 t517.length co58] 24 (0, 0)) (by (with_reducible repeat (first | refine blk_drewN ?_ _ | refine blk_drew ?_ | refine blk_alloc ?_ _)); refine HW.blk_far5 ?_ NB522_532.out; (with_reducible repeat (first | refine blk_drewN ?_ _ | refine blk_drew ?_ | refine blk_alloc ?_ _)); exact BK522.out) hb); have n6_ := Aside0.mk (blk_below (g := gb532) (o := .cells #[.bool t523, .int .i64 t524, .bool t525, .int .i64 t526, .slice Ao64 t527.length co64] 24 (0, 0)) (by (with_reducible repeat (first | refine blk_drewN ?_ _ | refine blk_drew ?_ | refine blk_alloc ?_ _)); refine HW.blk_put5 (cs := #[.bool false, .int .i64 0, .bool false, .int .i64 0, .slice none 0 0]) ?_ rfl; (with_reducible repeat (first | refine blk_drewN ?_ _ | refine blk_drew ?_ | refine blk_alloc ?_ _)); exact BK532.out) hb); have n7_ := Aside0.mk (below_step (by repeat (first | (with_reducible first | exact HB.out | apply below_alloc | apply pw_below_drewN | apply below_drew1 | refine below_set ?_ GE494.out | refine below_set ?_ GE522.out | refine below_set ?_ GE532.out) | exact HB.out)) hb); clear HO504; clear HO507; clear HO519; clear HO529; clear BK494; clear BK522; clear BK532; clear HB; have HO504 := n0_; have HO507 := n1_; have HO519 := n2_; have HO529 := n3_; have BK494 := n4_; have BK522 := n5_; have BK532 := n6_; have HB := n7_; clear n0_ n1_ n2_ n3_ n4_ n5_ n6_ n7_; (try clear hb); (try clear hb2); (try clear hk); (try clear hi)))
             go_meet
             case rel => exact ⟨_, (true), (by first | rfl | (simp; done) | (simp [*]; done)), H', ⟨by have := HJ4.out; first | omega | exact Nat.le_refl _⟩, ⟨by (with_reducible repeat (first | apply Kd.R_alloc | apply Kd.R_drewN | apply Kd.R_drew)); exact Kd.R_mono HO519.out (fun _ hk => hk.2)⟩, ⟨by (with_reducible repeat (first | apply Kd.R_alloc | apply Kd.R_drewN | apply Kd.R_drew)); exact Kd.R_mono HO529.out (fun _ hk => hk.2)⟩, ⟨by (with_reducible repeat (first | refine blk_drewN ?_ _ | refine blk_drew ?_ | refine blk_alloc ?_ _)); exact BK494.out⟩, ⟨by (with_reducible repeat (first | refine blk_drewN ?_ _ | refine blk_drew ?_ | refine blk_alloc ?_ _)); exact BK522.out⟩, ⟨by (with_reducible repeat (first | refine blk_drewN ?_ _ | refine blk_drew ?_ | refine blk_alloc ?_ _)); exact BK532.out⟩, ⟨by repeat (first | (with_reducible first | exact HB.out | apply below_alloc | apply pw_below_drewN | apply below_drew1 | refine below_set ?_ GE494.out | refine below_set ?_ GE522.out | refine below_set ?_ GE532.out) | exact HB.out)⟩⟩
           case rest =>
            clear HC43
            try clear c1
            try clear c2
            try clear p2
            try clear c3
            try clear p3
            try clear q3
            try clear hx3
            try clear hf3
            try clear c4
            try clear c5
            try clear q5
            try clear c6
            try clear p6
            try clear c7
            try clear c9
            try clear c10
            try clear c11
            try clear c13
            try clear c14
            try clear c14b0
            try clear c14b1
            try clear c21
            try clear c23
            try clear c28
            try clear c29
            try clear c31
            try clear c32
            try clear c32b0
            try clear c32b1
            try clear c34
            try clear c34b0
            try clear c35
            try clear c35b0
            try clear p36
            try clear q36
            try clear hx36
            try clear hf36
            try clear c37
            try clear c37b0
            try clear c37b1
            try clear c37b2
            try clear c39
            try clear c39b0
            try clear c39b1
            try clear c40
            try clear c40b0
            try clear c40b1
            try clear c53
            try clear q53
            try clear c56
            try clear c61
            try clear c62
            try clear p64
            try clear c66
            try clear c67
            try clear c67b0
            try clear c67b1
            try clear c68
            try clear c69
            try clear c72
            try clear c73
            try clear c76
            try clear c77
            try clear hcz10_0
            try clear hcz10_1
            try clear hcz10_2
            try clear hcz10_3
            try clear hcz10_4
            try clear hcz15_0
            try clear hcz15_1
            try clear hcz15_2
            try clear hcz15_3
            try clear hcz15_4
            try clear hcz17_0
            try clear hcz17_1
            try clear hcz17_2
            try clear hcz17_3
            try clear hcz17_4
            try clear hcz20_0
            try clear hcz20_1
            try clear hcz20_2
            try clear hcz20_3
            try clear hcz20_4
            try clear hcz22_0
            try clear hcz22_1
            try clear hcz22_2
            try clear hcz22_3
            try clear hcz22_4
            try clear hcz24_0
            try clear hcz24_1
            try clear hcz24_2
            try clear hcz24_3
            try clear hcz24_4
            try clear hcz26_0
            try clear hcz26_1
            try clear hcz26_2
            try clear hcz26_3
            try clear hcz26_4
            try clear hcz46_0
            try clear hcz46_1
            try clear hcz46_2
            try clear hcz46_3
            try clear hcz46_4
            try clear hcz57_0
            try clear hcz57_1
            try clear hcz57_2
            try clear hcz57_3
            try clear hcz57_4
            try clear hcz63_0
            try clear hcz63_1
            try clear hcz63_2
            try clear hcz63_3
            try clear hcz63_4
            try clear hcz70_0
            try clear hcz70_1
            try clear hcz70_2
            try clear hcz70_3
            try clear hcz70_4
            try clear hcz74_0
            try clear hcz74_1
            try clear hcz74_2
            try clear hcz74_3
            try clear hcz74_4
            try clear hcz78_0
            try clear hcz78_1
            try clear hcz78_2
            try clear hcz78_3
            try clear hcz78_4
            try clear hfz10_0
            try clear hfz10_1
            try clear hfz10_2
            try clear hfz10_3
            try clear hfz10_4
            try clear hfz15_0
            try clear hfz15_1
            try clear hfz15_2
            try clear hfz15_3
            try clear hfz15_4
            try clear hfz17_0
            try clear hfz17_1
            try clear hfz17_2
            try clear hfz17_3
            try clear hfz17_4
            try clear hfz20_0
            try clear hfz20_1
            try clear hfz20_2
            try clear hfz20_3
            try clear hfz20_4
            try clear hfz22_0
            try clear hfz22_1
            try clear hfz22_2
            try clear hfz22_3
            try clear hfz22_4
            try clear hfz24_0
            try clear hfz24_1
            try clear hfz24_2
            try clear hfz24_3
            try clear hfz24_4
            try clear hfz26_0
            try clear hfz26_1
            try clear hfz26_2
            try clear hfz26_3
            try clear hfz26_4
            try clear hfz46_0
            try clear hfz46_1
            try clear hfz46_2
            try clear hfz46_3
            try clear hfz46_4
            try clear hfz57_0
            try clear hfz57_1
            try clear hfz57_2
            try clear hfz57_3
            try clear hfz57_4
            try clear hfz63_0
            try clear hfz63_1
            try clear hfz63_2
            try clear hfz63_3
            try clear hfz63_4
            try clear hfz70_0
            try clear hfz70_1
            try clear hfz70_2
            try clear hfz70_3
            try clear hfz70_4
            try clear hfz74_0
            try clear hfz74_1
            try clear hfz74_2
            try clear hfz74_3
            try clear hfz74_4
            try clear hfz78_0
            try clear hfz78_1
            try clear hfz78_2
            try clear hfz78_3
            try clear hfz78_4
            try clear hx36_0
            try clear p2
            try clear p36
            try clear q36
            try clear q53
            obtain ⟨kq, x79_42, rfl, HA, HJ42, HO_523004, HO_533004, BK494, BK522, BK532, HB⟩ := hcut
            cases kq with
            | zero => exact absurd HA.out (by simp [phaetonlaw05_WireShort.j1])
            | succ kj42 =>
             have H := HA.out
             clear HA
             simp only [phaetonlaw05_WireShort.j1] at H
             by_cases c80 : x79_42 = true
             ·subst c80
              have H1 : (none) = some r := by rw [if_pos rfl] at H; exact H
              clear H
              have H := H1
              clear H1
              exact absurd H (by simp)
             ·replace c80 := Bool.eq_false_iff.mpr c80
              subst c80
              have H1 : (if t530 = 0 then ((some (([] : List Int) : List Int)).bind fun y535 => ((wire_Bits.f t523 t524 t525 t526 t527).bind fun t538 => (if y535.length + t538.length < 17592186044416 then ((some (y535 ++ t538 : List Int)).bind fun y541 => (if (y541.length : Int) < 20 then (none) else (if (y541.length : Int) > (l2.length : Int) then (none) else (if t531 = (-1) then ((phaetonref04_Right.f kj42 t523 t524 t525 t526 t527).bind fun t544 => (if t544 = true then (if 0 ≤ (wrap64 ((y541.length : Int) - 9)) then (if (wrap64 ((y541.length : Int) - 9)) < (y541.length : Int) then (if t495 = true then (if 0 ≤ (y541.length : Int) then (if (y541.length : Int) ≤ (l2.length : Int) then ((phaetonref01_Same.f kj42 (y541.set ((wrap64 ((y541.length : Int) - 9)) : Int).toNat 0) (l2.take ((y541.length : Int) : Int).toNat)).bind fun t547 => (if t547 = true then (some true) else (none))) else (none)) else (none)) else (none)) else (none)) else (none)) else (none))) else (none))))) else (none)))) else (if t495 = true then (if t531 ≥ 0 then (if t531 ≤ (l2.length : Int) then (if t530 = 5 then (some true) else ((phaetonref04_Same.f t523 t524 t525 t526 t527 false 0 false 0 ([] : List Int)).bind fun t534 => (if t534 = true then (some true) else (none)))) else (none)) else (none)) else (none))) = some r := by rw [if_neg (show ¬ (false = true) by decide)] at H; exact H
              clear H
              have H := H1
              clear H1
              by_cases c81 : t530 = 0
              ·rw [if_pos c81] at H
               have c81b0 : (t530 == 0) = true := beq_iff_eq.mpr c81
               have c81b1 : (t530 != 0) = false := bne_eq_false_iff_eq.mpr c81
               clear c81
               obtain ⟨y535, hy535⟩ : ∃ y_ : List Int, y_ = (([] : List Int)) := ⟨_, rfl⟩
               replace H : ((wire_Bits.f t523 t524 t525 t526 t527).bind fun t538 => (if y535.length + t538.length < 17592186044416 then ((some (y535 ++ t538 : List Int)).bind fun y541 => (if (y541.length : Int) < 20 then (none) else (if (y541.length : Int) > (l2.length : Int) then (none) else (if t531 = (-1) then ((phaetonref04_Right.f kj42 t523 t524 t525 t526 t527).bind fun t544 => (if t544 = true then (if 0 ≤ (wrap64 ((y541.length : Int) - 9)) then (if (wrap64 ((y541.length : Int) - 9)) < (y541.length : Int) then (if t495 = true then (if 0 ≤ (y541.length : Int) then (if (y541.length : Int) ≤ (l2.length : Int) then ((phaetonref01_Same.f kj42 (y541.set ((wrap64 ((y541.length : Int) - 9)) : Int).toNat 0) (l2.take ((y541.length : Int) : Int).toNat)).bind fun t547 => (if t547 = true then (some true) else (none))) else (none)) else (none)) else (none)) else (none)) else (none)) else (none))) else (none))))) else (none))) = some r := by first | (rw [hy535]; with_reducible exact H) | (have H2_ := (Option.bind_some _ _).symm.trans H; rw [hy535]; with_reducible exact H2_) | (have H2_ := (Option.bind_some _ _).symm.trans H; with_reducible exact H2_) | with_reducible exact H | (rw [hy535]; exact H) | exact H
               have Ny535 := Aside0.mk hy535
               clear hy535
               replace H := Option.bind_eq_some_iff.mp H
               obtain ⟨t538, A820, H⟩ := H
               replace H : (if y535.length + t538.length < 17592186044416 then ((some (y535 ++ t538 : List Int)).bind fun y541 => (if (y541.length : Int) < 20 then (none) else (if (y541.length : Int) > (l2.length : Int) then (none) else (if t531 = (-1) then ((phaetonref04_Right.f kj42 t523 t524 t525 t526 t527).bind fun t544 => (if t544 = true then (if 0 ≤ (wrap64 ((y541.length : Int) - 9)) then (if (wrap64 ((y541.length : Int) - 9)) < (y541.length : Int) then (if t495 = true then (if 0 ≤ (y541.length : Int) then (if (y541.length : Int) ≤ (l2.length : Int) then ((phaetonref01_Same.f kj42 (y541.set ((wrap64 ((y541.length : Int) - 9)) : Int).toNat 0) (l2.take ((y541.length : Int) : Int).toNat)).bind fun t547 => (if t547 = true then (some true) else (none))) else (none)) else (none)) else (none)) else (none)) else (none)) else (none))) else (none))))) else (none)) = some r := H
               have A82 := Aside0.mk A820
               clear A820
               by_cases c83 : y535.length + t538.length < 17592186044416
               ·rw [if_pos c83] at H
                have LMc83 := Aside0.mk c83
                clear c83
                obtain ⟨y541, hy541⟩ : ∃ y_ : List Int, y_ = (y535 ++ t538) := ⟨_, rfl⟩
                replace H : (if (y541.length : Int) < 20 then (none) else (if (y541.length : Int) > (l2.length : Int) then (none) else (if t531 = (-1) then ((phaetonref04_Right.f kj42 t523 t524 t525 t526 t527).bind fun t544 => (if t544 = true then (if 0 ≤ (wrap64 ((y541.length : Int) - 9)) then (if (wrap64 ((y541.length : Int) - 9)) < (y541.length : Int) then (if t495 = true then (if 0 ≤ (y541.length : Int) then (if (y541.length : Int) ≤ (l2.length : Int) then ((phaetonref01_Same.f kj42 (y541.set ((wrap64 ((y541.length : Int) - 9)) : Int).toNat 0) (l2.take ((y541.length : Int) : Int).toNat)).bind fun t547 => (if t547 = true then (some true) else (none))) else (none)) else (none)) else (none)) else (none)) else (none)) else (none))) else (none)))) = some r := by first | (rw [hy541]; with_reducible exact H) | (have H2_ := (Option.bind_some _ _).symm.trans H; rw [hy541]; with_reducible exact H2_) | (have H2_ := (Option.bind_some _ _).symm.trans H; with_reducible exact H2_) | with_reducible exact H | (rw [hy541]; exact H) | exact H
                have Ny541 := Aside0.mk hy541
                clear hy541
                by_cases c84 : (y541.length : Int) < 20
                ·rw [if_pos c84] at H
                 exact absurd H (by simp)
                ·rw [if_neg c84] at H
                 have c84b0 : decide ((y541.length : Int) < 20) = false := decide_eq_false c84
                 have c84b1 : decide (y541.length < 20) = false := decide_eq_false (by omega)
                 clear c84
                 by_cases c85 : (y541.length : Int) > (l2.length : Int)
                 ·rw [if_pos c85] at H
                  exact absurd H (by simp)
                 ·rw [if_neg c85] at H
                  have c85b0 : decide ((l2.length : Int) < (y541.length : Int)) = false := decide_eq_false c85
                  have c85b1 : decide (l2.length < y541.length) = false := decide_eq_false (fun h => c85 (Int.ofNat_lt.mpr h))
                  clear c85
                  by_cases c86 : t531 = (-1)
                  ·rw [if_pos c86] at H
                   have c86b0 : (t531 == (-1)) = true := beq_iff_eq.mpr c86
                   have c86b1 : (t531 != (-1)) = false := bne_eq_false_iff_eq.mpr c86
                   clear c86
                   replace H := Option.bind_eq_some_iff.mp H
                   obtain ⟨t544, A870, H⟩ := H
                   replace H : (if t544 = true then (if 0 ≤ (wrap64 ((y541.length : Int) - 9)) then (if (wrap64 ((y541.length : Int) - 9)) < (y541.length : Int) then (if t495 = true then (if 0 ≤ (y541.length : Int) then (if (y541.length : Int) ≤ (l2.length : Int) then ((phaetonref01_Same.f kj42 (y541.set ((wrap64 ((y541.length : Int) - 9)) : Int).toNat 0) (l2.take ((y541.length : Int) : Int).toNat)).bind fun t547 => (if t547 = true then (some true) else (none))) else (none)) else (none)) else (none)) else (none)) else (none)) else (none)) = some r := H
                   have A87 := Aside0.mk A870
                   clear A870
                   by_cases c88 : t544 = true
                   ·subst c88
                    have H1 : (if 0 ≤ (wrap64 ((y541.length : Int) - 9)) then (if (wrap64 ((y541.length : Int) - 9)) < (y541.length : Int) then (if t495 = true then (if 0 ≤ (y541.length : Int) then (if (y541.length : Int) ≤ (l2.length : Int) then ((phaetonref01_Same.f kj42 (y541.set ((wrap64 ((y541.length : Int) - 9)) : Int).toNat 0) (l2.take ((y541.length : Int) : Int).toNat)).bind fun t547 => (if t547 = true then (some true) else (none))) else (none)) else (none)) else (none)) else (none)) else (none)) = some r := by rw [if_pos rfl] at H; exact H
                    clear H
                    have H := H1
                    clear H1
                    obtain ⟨ji89, hji89⟩ : ∃ j_ : Int, (wrap64 ((y541.length : Int) - 9)) = j_ := ⟨_, rfl⟩
                    replace H : (if 0 ≤ (ji89) then (if (ji89) < (y541.length : Int) then (if t495 = true then (if 0 ≤ (y541.length : Int) then (if (y541.length : Int) ≤ (l2.length : Int) then ((phaetonref01_Same.f kj42 (y541.set ((ji89) : Int).toNat 0) (l2.take ((y541.length : Int) : Int).toNat)).bind fun t547 => (if t547 = true then (some true) else (none))) else (none)) else (none)) else (none)) else (none)) else (none)) = some r := by first | (rw [hji89] at H; exact H) | (simp only [hji89] at H ⊢; exact H)
                    (try rw [hji89] at A82)
                    (try rw [hji89] at A87)
                    have hji89w : (IntKind.i64.wrap ((y541.length : Int) - 9)) = ji89 := (i64_w _).trans hji89
                    by_cases c90 : 0 ≤ (ji89)
                    ·rw [if_pos c90] at H
                     have c90b0 : decide (0 ≤ (ji89)) = true := decide_eq_true c90
                     clear c90
                     by_cases c91 : (ji89) < (y541.length : Int)
                     ·rw [if_pos c91] at H
                      have c91b0 : decide ((ji89) < (y541.length : Int)) = true := decide_eq_true c91
                      clear c91
                      obtain ⟨y545, hy545⟩ : ∃ y_ : List Int, y_ = (y541.set ((ji89) : Int).toNat 0) := ⟨_, rfl⟩
                      replace H : (if t495 = true then (if 0 ≤ (y541.length : Int) then (if (y541.length : Int) ≤ (l2.length : Int) then ((phaetonref01_Same.f kj42 y545 (l2.take ((y541.length : Int) : Int).toNat)).bind fun t547 => (if t547 = true then (some true) else (none))) else (none)) else (none)) else (none)) = some r := by first | (rw [hy545]; with_reducible exact H) | (have H2_ := (Option.bind_some _ _).symm.trans H; rw [hy545]; with_reducible exact H2_) | (have H2_ := (Option.bind_some _ _).symm.trans H; with_reducible exact H2_) | with_reducible exact H | (rw [hy545]; exact H) | exact H
                      have Ny545 := Aside0.mk hy545
                      clear hy545
                      by_cases c93 : t495 = true
                      ·subst c93
                       have H1 : (if 0 ≤ (y541.length : Int) then (if (y541.length : Int) ≤ (l2.length : Int) then ((phaetonref01_Same.f kj42 y545 (l2.take ((y541.length : Int) : Int).toNat)).bind fun t547 => (if t547 = true then (some true) else (none))) else (none)) else (none)) = some r := by rw [if_pos rfl] at H; exact H
                       clear H
                       have H := H1
                       clear H1
                       by_cases c94 : 0 ≤ (y541.length : Int)
                       ·rw [if_pos c94] at H
                        have c94b0 := eq_true c94
                        have c94b1 : decide (0 ≤ (y541.length : Int)) = true := decide_eq_true c94
                        clear c94
                        by_cases c95 : (y541.length : Int) ≤ (l2.length : Int)
                        ·rw [if_pos c95] at H
                         have c95b0 := eq_true c95
                         have c95b1 : decide ((y541.length : Int) ≤ (l2.length : Int)) = true := decide_eq_true c95
                         clear c95
                         replace H := Option.bind_eq_some_iff.mp H
                         obtain ⟨t547, A960, H⟩ := H
                         replace H : (if t547 = true then (some true) else (none)) = some r := H
                         have A96 := Aside0.mk A960
                         clear A960
                         by_cases c97 : t547 = true
                         ·subst c97
                          have H1 : (some true) = some r := by rw [if_pos rfl] at H; exact H
                          clear H
                          have H := H1
                          clear H1
                          obtain rfl := Option.some.inj H
                          go_wp2_with (first | ((with_reducible refine gate_store (t := 24) (p := 13) rfl ?_); refine HW.store_box2 rfl rfl 24 _ _ rfl rfl rfl BK532.out rfl (by kernel_rfl) (by intro q hq; simp only [List.mem_cons, List.not_mem_nil, or_false] at hq; rcases hq with rfl | rfl | rfl | rfl | rfl <;> rfl) ?_; intro w1_ hw1_ hk1_; simp only [List.toList_toArray, World.setCells, Nat.zero_add, Nat.reduceAdd] at hw1_; subst hw1_; have hcb532_0 := (blk_cell hk1_ 0).trans rfl; have hfb532_0 := blk_frozen hk1_ 0; have hcb532_1 := (blk_cell hk1_ 1).trans rfl; have hfb532_1 := blk_frozen hk1_ 1; have hcb532_2 := (blk_cell hk1_ 2).trans rfl; have hfb532_2 := blk_frozen hk1_ 2; have hcb532_3 := (blk_cell hk1_ 3).trans rfl; have hfb532_3 := blk_frozen hk1_ 3; have hcb532_4 := (blk_cell hk1_ 4).trans rfl; have hfb532_4 := blk_frozen hk1_ 4; clear hk1_) | ((with_reducible refine gate_store (t := 24) (p := 10) rfl ?_); refine HW.store_box2 rfl rfl 24 _ _ rfl rfl rfl BK522.out rfl (by kernel_rfl) (by intro q hq; simp only [List.mem_cons, List.not_mem_nil, or_false] at hq; rcases hq with rfl | rfl | rfl | rfl | rfl <;> rfl) ?_; intro w1_ hw1_ hk1_; simp only [List.toList_toArray, World.setCells, Nat.zero_add, Nat.reduceAdd] at hw1_; subst hw1_; have hcb522_0 := (blk_cell hk1_ 0).trans rfl; have hfb522_0 := blk_frozen hk1_ 0; have hcb522_1 := (blk_cell hk1_ 1).trans rfl; have hfb522_1 := blk_frozen hk1_ 1; have hcb522_2 := (blk_cell hk1_ 2).trans rfl; have hfb522_2 := blk_frozen hk1_ 2; have hcb522_3 := (blk_cell hk1_ 3).trans rfl; have hfb522_3 := blk_frozen hk1_ 3; have hcb522_4 := (blk_cell hk1_ 4).trans rfl; have hfb522_4 := blk_frozen hk1_ 4; clear hk1_) | ((with_reducible refine gate_store (t := 24) (p := 3) rfl ?_); refine HW.store_box2 rfl rfl 24 _ _ rfl rfl rfl BK494.out rfl (by kernel_rfl) (by intro q hq; simp only [List.mem_cons, List.not_mem_nil, or_false] at hq; rcases hq with rfl | rfl | rfl | rfl | rfl <;> rfl) ?_; intro w1_ hw1_ hk1_; simp only [List.toList_toArray, World.setCells, Nat.zero_add, Nat.reduceAdd] at hw1_; subst hw1_; have hcb494_0 := (blk_cell hk1_ 0).trans rfl; have hfb494_0 := blk_frozen hk1_ 0; have hcb494_1 := (blk_cell hk1_ 1).trans rfl; have hfb494_1 := blk_frozen hk1_ 1; have hcb494_2 := (blk_cell hk1_ 2).trans rfl; have hfb494_2 := blk_frozen hk1_ 2; have hcb494_3 := (blk_cell hk1_ 3).trans rfl; have hfb494_3 := blk_frozen hk1_ 3; have hcb494_4 := (blk_cell hk1_ 4).trans rfl; have hfb494_4 := blk_frozen hk1_ 4; clear hk1_) | ((with_reducible refine gate_dst (N := 102) rfl ?_); (try (refine gate_guard (by rfl) ?_; dsimp only)); refine Kd.R_lit (Kd.int .i64) _ 3 ?hg (N := 102) ?hd (xs := ([] : List Int)) (inner := []) (ok := fun _ => True) (okp := fun _ => True) ?hr ?hp (fun _ hk => hk) trivial (Below.refl _ _) (Nat.le_refl _) (by simp) ?_; (case hd => rfl); (case hg => rfl); (case hr => first | (go_simp; done) | (go_simp; rfl)); (case hp => exact (Reps.none _ _)); intro v536 w98 ho99 hb hg_ hnew_; clear hg_ hnew_; (first | rw [← Ny535.out] at ho99 | (simp only [Int.reduceToNat] at ho99; rw [← Ny535.out] at ho99)); have n0_ := Aside0.mk (Kd.R_below (by (with_reducible repeat (first | apply Kd.R_alloc | apply Kd.R_drewN | apply Kd.R_drew)); exact HO_523004.out) hb); have n1_ := Aside0.mk (Kd.R_below (by (with_reducible repeat (first | apply Kd.R_alloc | apply Kd.R_drewN | apply Kd.R_drew)); exact HO_533004.out) hb); have n2_ := Aside0.mk (Kd.R_lower ho99 (below_size (by repeat (first | (with_reducible first | exact HB.out | apply below_alloc | apply pw_below_drewN | apply below_drew1 | refine below_set ?_ GE494.out | refine below_set ?_ GE522.out | refine below_set ?_ GE532.out) | exact HB.out)))); have n3_ := Aside0.mk (blk_below (g := gb494) (o := .cells #[.bool a0_0, .int .i64 a0_1, .bool a0_2, .int .i64 a0_3, .slice A0_4 l0_4.length c0_4] 24 (0, 0)) (by (with_reducible repeat (first | refine blk_drewN ?_ _ | refine blk_drew ?_ | refine blk_alloc ?_ _)); exact BK494.out) hb); have n4_ := Aside0.mk (blk_below (g := gb522) (o := .cells #[.bool t513, .int .i64 t514, .bool t515, .int .i64 t516, .slice Ao58 t517.length co58] 24 (0, 0)) (by (with_reducible repeat (first | refine blk_drewN ?_ _ | refine blk_drew ?_ | refine blk_alloc ?_ _)); exact BK522.out) hb); have n5_ := Aside0.mk (blk_below (g := gb532) (o := .cells #[.bool t523, .int .i64 t524, .bool t525, .int .i64 t526, .slice Ao64 t527.length co64] 24 (0, 0)) (by (with_reducible repeat (first | refine blk_drewN ?_ _ | refine blk_drew ?_ | refine blk_alloc ?_ _)); exact BK532.out) hb); have n6_ := Aside0.mk (below_step (by repeat (first | (with_reducible first | exact HB.out | apply below_alloc | apply pw_below_drewN | apply below_drew1 | refine below_set ?_ GE494.out | refine below_set ?_ GE522.out | refine below_set ?_ GE532.out) | exact HB.out)) hb); clear HO_523004; clear HO_533004; clear BK494; clear BK522; clear BK532; clear HB; have HO_523004 := n0_; have HO_533004 := n1_; have HO537 := n2_; have BK494 := n3_; have BK522 := n4_; have BK532 := n5_; have HB := n6_; clear n0_ n1_ n2_ n3_ n4_ n5_ n6_; clear hb ho99; have hnb100 := NB532_494.out; have hnc100 := NB494_532.out; have hnb101 := NB532_522.out; have hnc101 := NB522_532.out; have hcz102_0 : w98.cell? ⟨gb532, 0, none⟩ = some (.bool t523) := (blk_cell BK532.out 0).trans rfl; have hcz102_1 : w98.cell? ⟨gb532, 1, none⟩ = some (.int .i64 t524) := (blk_cell BK532.out 1).trans rfl; have hcz102_2 : w98.cell? ⟨gb532, 2, none⟩ = some (.bool t525) := (blk_cell BK532.out 2).trans rfl; have hcz102_3 : w98.cell? ⟨gb532, 3, none⟩ = some (.int .i64 t526) := (blk_cell BK532.out 3).trans rfl; have hcz102_4 : w98.cell? ⟨gb532, 4, none⟩ = some (.slice Ao64 t527.length co64) := (blk_cell BK532.out 4).trans rfl; have hfz102_0 := blk_frozen BK532.out 0; have hfz102_1 := blk_frozen BK532.out 1; have hfz102_2 := blk_frozen BK532.out 2; have hfz102_3 := blk_frozen BK532.out 3; have hfz102_4 := blk_frozen BK532.out 4) | ((with_reducible refine gate_callee (f := 14) rfl ?_); refine goesL_ (some 104) rfl rfl Try.func14 (by kernel_rfl) rfl #[.agg #[.bool t523, .int .i64 t524, .bool t525, .int .i64 t526, .slice Ao64 t527.length co64]] rfl (by (try simp only [List.map_toArray, List.map_cons, List.map_nil]); first | done | rfl | (simp only [List.length_drop, List.length_take]; rfl)) ?_; (with_reducible refine (wire_Bits.calls t523 t524 t525 t526 _ _ t527 t538 _ ?side1 ?side2 A82.out).mono ?_); (case side1 => repeat (first | exact (Kd.R_reads' HO_533004.out).2.2 | (with_reducible refine Kd.C_alloc ?_ _) | (with_reducible refine Kd.C_drewN ?_ _) | (with_reducible refine Kd.C_drew ?_))); (case side2 => exact (Kd.R_reads' HO_533004.out).2.1); rintro e w103 ⟨v539, rfl, ho0, hb⟩; refine ⟨_, rfl, ?_⟩; have n0_ := Aside0.mk (Kd.R_below (by (with_reducible repeat (first | apply Kd.R_alloc | apply Kd.R_drewN | apply Kd.R_drew)); exact HO_523004.out) hb); have n1_ := Aside0.mk (Kd.R_below (by (with_reducible repeat (first | apply Kd.R_alloc | apply Kd.R_drewN | apply Kd.R_drew)); exact HO_533004.out) hb); have n2_ := Aside0.mk (Kd.R_elder' (by (with_reducible repeat (first | apply Kd.R_alloc | apply Kd.R_drewN | apply Kd.R_drew)); exact HO537.out) (Kd.R_base ho0) hb); have n3_ := Aside0.mk (Kd.R_lower (Kd.R_new' ho0 (Kd.R_lt (by (with_reducible repeat (first | apply Kd.R_alloc | apply Kd.R_drewN | apply Kd.R_drew)); exact HO537.out))) (below_size (by repeat (first | (with_reducible first | exact HB.out | apply below_alloc | apply pw_below_drewN | apply below_drew1 | refine below_set ?_ GE494.out | refine below_set ?_ GE522.out | refine below_set ?_ GE532.out) | exact HB.out)))); have n4_ := Aside0.mk (blk_below (g := gb494) (o := .cells #[.bool a0_0, .int .i64 a0_1, .bool a0_2, .int .i64 a0_3, .slice A0_4 l0_4.length c0_4] 24 (0, 0)) (by (with_reducible repeat (first | refine blk_drewN ?_ _ | refine blk_drew ?_ | refine blk_alloc ?_ _)); exact BK494.out) hb); have n5_ := Aside0.mk (blk_below (g := gb522) (o := .cells #[.bool t513, .int .i64 t514, .bool t515, .int .i64 t516, .slice Ao58 t517.length co58] 24 (0, 0)) (by (with_reducible repeat (first | refine blk_drewN ?_ _ | refine blk_drew ?_ | refine blk_alloc ?_ _)); exact BK522.out) hb); have n6_ := Aside0.mk (blk_below (g := gb532) (o := .cells #[.bool t523, .int .i64 t524, .bool t525, .int .i64 t526, .slice Ao64 t527.length co64] 24 (0, 0)) (by (with_reducible repeat (first | refine blk_drewN ?_ _ | refine blk_drew ?_ | refine blk_alloc ?_ _)); exact BK532.out) hb); have n7_ := Aside0.mk (below_step (by repeat (first | (with_reducible first | exact HB.out | apply below_alloc | apply pw_below_drewN | apply below_drew1 | refine below_set ?_ GE494.out | refine below_set ?_ GE522.out | refine below_set ?_ GE532.out) | exact HB.out)) hb); clear HO_523004; clear HO_533004; clear HO537; clear BK494; clear BK522; clear BK532; clear HB; have HO_523004 := n0_; have HO_533004 := n1_; have HO537 := n2_; have HO540 := n3_; have BK494 := n4_; have BK522 := n5_; have BK532 := n6_; have HB := n7_; clear n0_ n1_ n2_ n3_ n4_ n5_ n6_ n7_; (try clear hb); (try clear hb2); (try clear hk); (try clear hi); (try clear ho0); obtain ⟨Ao105, co105, eo105⟩ := Kd.R_slice HO540.out; subst eo105) | ((with_reducible refine gate_builtin (b := .append) (xs := #[.tmp 102, .tmp 104]) rfl ?_); (try (refine gate_guard (by rfl) ?_; dsimp only)); at_builtin; refine Kd.R_append_rows (Kd.int .i64) (w0 := w) w.heap.size rfl (.tmp 102) (.tmp 104) 25 3 (.int .i64 0) 8 rfl Try.underlying25 info3 rfl (by decide) (by omega) v536 y535 t538 _ _ _ (fun k_ => some k_ ≠ (.slice Ao105 t538.length co105 : Value).ownBlock) (fun _ => False) rfl rfl ?aO ?aR (fun _ _ h => h) (fun _ h => h.elim) ?aF ?aB ?aS ?aL ?_; (case aR => repeat (first | exact (Kd.R_reads' HO540.out).2.2 | (with_reducible refine Kd.C_alloc ?_ _) | (with_reducible refine Kd.C_drewN ?_ _) | (with_reducible refine Kd.C_drew ?_))); (case aB => exact (by repeat (first | (with_reducible first | exact HB.out | apply below_alloc | apply pw_below_drewN | apply below_drew1 | refine below_set ?_ GE494.out | refine below_set ?_ GE522.out | refine below_set ?_ GE532.out) | exact HB.out))); (case aF => exact (fun k_ hk => Kd.fresh' (Kd.R_lt (by (with_reducible repeat (first | apply Kd.R_alloc | apply Kd.R_drewN | apply Kd.R_drew)); exact HO540.out)) k_ hk)); (case aO => exact (by (with_reducible repeat (first | apply Kd.R_alloc | apply Kd.R_drewN | apply Kd.R_drew)); exact Kd.R_mono HO537.out (fun _ hk => hk.2))); (case aS => exact (below_size (by repeat (first | (with_reducible first | exact HB.out | apply below_alloc | apply pw_below_drewN | apply below_drew1 | refine below_set ?_ GE494.out | refine below_set ?_ GE522.out | refine below_set ?_ GE532.out) | exact HB.out)))); (case aL => have := LMc83.out; omega); intro v542 w104 ho hb hg hat; rw [← Ny541.out] at ho; have n0_ := Aside0.mk (Kd.R_over' (by (with_reducible repeat (first | apply Kd.R_alloc | apply Kd.R_drewN | apply Kd.R_drew)); exact HO_523004.out) (Kd.R_typed (by (with_reducible repeat (first | apply Kd.R_alloc | apply Kd.R_drewN | apply Kd.R_drew)); exact HO537.out)) (by decide) hg); have n1_ := Aside0.mk (Kd.R_over' (by (with_reducible repeat (first | apply Kd.R_alloc | apply Kd.R_drewN | apply Kd.R_drew)); exact HO_533004.out) (Kd.R_typed (by (with_reducible repeat (first | apply Kd.R_alloc | apply Kd.R_drewN | apply Kd.R_drew)); exact HO537.out)) (by decide) hg); have n2_ := Aside0.mk (blk_grown (g := gb494) (o := .cells #[.bool a0_0, .int .i64 a0_1, .bool a0_2, .int .i64 a0_3, .slice A0_4 l0_4.length c0_4] 24 (0, 0)) (by (with_reducible repeat (first | refine blk_drewN ?_ _ | refine blk_drew ?_ | refine blk_alloc ?_ _)); exact BK494.out) hg (Kd.R_ne HO537.out BK494.out (by decide))); have n3_ := Aside0.mk (blk_grown (g := gb522) (o := .cells #[.bool t513, .int .i64 t514, .bool t515, .int .i64 t516, .slice Ao58 t517.length co58] 24 (0, 0)) (by (with_reducible repeat (first | refine blk_drewN ?_ _ | refine blk_drew ?_ | refine blk_alloc ?_ _)); exact BK522.out) hg (Kd.R_ne HO537.out BK522.out (by decide))); have n4_ := Aside0.mk (blk_grown (g := gb532) (o := .cells #[.bool t523, .int .i64 t524, .bool t525, .int .i64 t526, .slice Ao64 t527.length co64] 24 (0, 0)) (by (with_reducible repeat (first | refine blk_drewN ?_ _ | refine blk_drew ?_ | refine blk_alloc ?_ _)); exact BK532.out) hg (Kd.R_ne HO537.out BK532.out (by decide))); have n5_ := Aside0.mk (Kd.R_after (ok := (fun _ => True)) (by (with_reducible repeat (first | apply Kd.R_alloc | apply Kd.R_drewN | apply Kd.R_drew)); exact HO540.out) hg hat); have n6_ := Aside0.mk (hb); have n7_ := Aside0.mk (ho); clear HO_523004; clear HO_533004; clear BK494; clear BK522; clear BK532; clear HO540; clear HB; clear HO537; have HO_523004 := n0_; have HO_533004 := n1_; have BK494 := n2_; have BK522 := n3_; have BK532 := n4_; have HO540 := n5_; have HB := n6_; have HO543 := n7_; clear n0_ n1_ n2_ n3_ n4_ n5_ n6_ n7_; clear ho hb hg hat; obtain ⟨Ao106, co106, eo106⟩ := Kd.R_slice HO543.out; subst eo106; have hcz107_0 : w104.cell? ⟨gb532, 0, none⟩ = some (.bool t523) := (blk_cell BK532.out 0).trans rfl; have hcz107_1 : w104.cell? ⟨gb532, 1, none⟩ = some (.int .i64 t524) := (blk_cell BK532.out 1).trans rfl; have hcz107_2 : w104.cell? ⟨gb532, 2, none⟩ = some (.bool t525) := (blk_cell BK532.out 2).trans rfl; have hcz107_3 : w104.cell? ⟨gb532, 3, none⟩ = some (.int .i64 t526) := (blk_cell BK532.out 3).trans rfl; have hcz107_4 : w104.cell? ⟨gb532, 4, none⟩ = some (.slice Ao64 t527.length co64) := (blk_cell BK532.out 4).trans rfl; have hfz107_0 := blk_frozen BK532.out 0; have hfz107_1 := blk_frozen BK532.out 1; have hfz107_2 := blk_frozen BK532.out 2; have hfz107_3 := blk_frozen BK532.out 3; have hfz107_4 := blk_frozen BK532.out 4) | (go_at_call 12; (with_reducible refine (phaetonref04_Right.calls kj42 t523 t524 t525 t526 _ _ t527 true _ ?side1 ?side2 A87.out).mono ?_); (case side1 => repeat (first | exact (Kd.R_reads' HO_533004.out).2.2 | (with_reducible refine Kd.C_alloc ?_ _) | (with_reducible refine Kd.C_drewN ?_ _) | (with_reducible refine Kd.C_drew ?_))); (case side2 => exact (Kd.R_reads' HO_533004.out).2.1); rintro e w108 ⟨rfl, hb⟩; have n0_ := Aside0.mk (Kd.R_below (by (with_reducible repeat (first | apply Kd.R_alloc | apply Kd.R_drewN | apply Kd.R_drew)); exact HO_523004.out) hb); have n1_ := Aside0.mk (Kd.R_below (by (with_reducible repeat (first | apply Kd.R_alloc | apply Kd.R_drewN | apply Kd.R_drew)); exact HO_533004.out) hb); have n2_ := Aside0.mk (Kd.R_below (by (with_reducible repeat (first | apply Kd.R_alloc | apply Kd.R_drewN | apply Kd.R_drew)); exact HO540.out) hb); have n3_ := Aside0.mk (Kd.R_below (by (with_reducible repeat (first | apply Kd.R_alloc | apply Kd.R_drewN | apply Kd.R_drew)); exact HO543.out) hb); have n4_ := Aside0.mk (blk_below (g := gb494) (o := .cells #[.bool a0_0, .int .i64 a0_1, .bool a0_2, .int .i64 a0_3, .slice A0_4 l0_4.length c0_4] 24 (0, 0)) (by (with_reducible repeat (first | refine blk_drewN ?_ _ | refine blk_drew ?_ | refine blk_alloc ?_ _)); exact BK494.out) hb); have n5_ := Aside0.mk (blk_below (g := gb522) (o := .cells #[.bool t513, .int .i64 t514, .bool t515, .int .i64 t516, .slice Ao58 t517.length co58] 24 (0, 0)) (by (with_reducible repeat (first | refine blk_drewN ?_ _ | refine blk_drew ?_ | refine blk_alloc ?_ _)); exact BK522.out) hb); have n6_ := Aside0.mk (blk_below (g := gb532) (o := .cells #[.bool t523, .int .i64 t524, .bool t525, .int .i64 t526, .slice Ao64 t527.length co64] 24 (0, 0)) (by (with_reducible repeat (first | refine blk_drewN ?_ _ | refine blk_drew ?_ | refine blk_alloc ?_ _)); exact BK532.out) hb); have n7_ := Aside0.mk (below_step (by repeat (first | (with_reducible first | exact HB.out | apply below_alloc | apply pw_below_drewN | apply below_drew1 | refine below_set ?_ GE494.out | refine below_set ?_ GE522.out | refine below_set ?_ GE532.out) | exact HB.out)) hb); clear HO_523004; clear HO_533004; clear HO540; clear HO543; clear BK494; clear BK522; clear BK532; clear HB; have HO_523004 := n0_; have HO_533004 := n1_; have HO540 := n2_; have HO543 := n3_; have BK494 := n4_; have BK522 := n5_; have BK532 := n6_; have HB := n7_; clear n0_ n1_ n2_ n3_ n4_ n5_ n6_ n7_; (try clear hb); (try clear hb2); (try clear hk); (try clear hi); have p92 : 0 ≤ ((ji89) : Int) := of_decide_eq_true (by first | (with_reducible assumption) | assumption); have q92 : ((ji89) : Int) < ((y541.length : Int) : Int) := of_decide_eq_true (by first | (with_reducible assumption) | assumption); obtain ⟨go92, co92, eo92, gb92, gl92, cl92, HG92⟩ := Kd.R_form HO543.out (by omega); (first | cases eo92 | (injection eo92 with ea_ en_ ec_; (first | subst ea_ | (injection ea_ with ea_; subst ea_)); subst ec_; clear en_)); have GB92 := Aside0.mk gb92; have GG92 := Aside0.mk HG92; clear gb92 gl92 HG92; obtain ⟨hx92_0, hf92_0⟩ := Kd.R_celln 0 HO543.out ((ji89) : Int) p92 q92; replace p92 := eq_true p92; replace q92 := eq_true q92; obtain ⟨hy109_, hz109_⟩ := Kd.R_celln 0 HO543.out ((ji89) : Int) (of_decide_eq_true (by first | (with_reducible assumption) | assumption)) (of_decide_eq_true (by first | (with_reducible assumption) | assumption)); have HP109 := Kd.R_putg HO543.out ((ji89) : Int) 0) | ((with_reducible refine gate_store (t := 3) (p := 129) rfl ?_); refine store_event (t := 3) (p := 129) (v := ?vo_w110) (w1 := (w108.setCell ⟨go92, ((ji89) : Int).toNat, none⟩ (.int .i64 0))) ?hg ?ho ?hn ?hr ?_; (case ho => rfl); (case hg => rfl); (case hn => rfl); (case hr => first | (go_simp; done) | (go_simp; rfl)); intro w110 hw; have hg : w108.grownBy w110 (some go92) := (by rw [hw]; exact HP109.2); have hp_ : Kd.R (Kd.int .i64) 3 w110 w.heap.size (fun k_ => some k_ ≠ (.slice Ao105 t538.length co105 : Value).ownBlock) (.slice (some ⟨go92, 0, none⟩) y541.length co106) y545 := (by rw [hw, Ny545.out]; exact HP109.1); clear HP109; have n0_ := Aside0.mk (Kd.R_over' (v := (.slice (some ⟨go92, 0, none⟩) y541.length co106)) (by (with_reducible repeat (first | apply Kd.R_alloc | apply Kd.R_drewN | apply Kd.R_drew)); exact HO_523004.out) (Kd.R_typed HO543.out) (by decide) hg); have n1_ := Aside0.mk (Kd.R_over' (v := (.slice (some ⟨go92, 0, none⟩) y541.length co106)) (by (with_reducible repeat (first | apply Kd.R_alloc | apply Kd.R_drewN | apply Kd.R_drew)); exact HO_533004.out) (Kd.R_typed HO543.out) (by decide) hg); have n2_ := Aside0.mk (blk_grown (g := gb494) (o := .cells #[.bool a0_0, .int .i64 a0_1, .bool a0_2, .int .i64 a0_3, .slice A0_4 l0_4.length c0_4] 24 (0, 0)) (by (with_reducible repeat (first | refine blk_drewN ?_ _ | refine blk_drew ?_ | refine blk_alloc ?_ _)); exact BK494.out) hg (Kd.R_ne HO543.out BK494.out (by decide))); have n3_ := Aside0.mk (blk_grown (g := gb522) (o := .cells #[.bool t513, .int .i64 t514, .bool t515, .int .i64 t516, .slice Ao58 t517.length co58] 24 (0, 0)) (by (with_reducible repeat (first | refine blk_drewN ?_ _ | refine blk_drew ?_ | refine blk_alloc ?_ _)); exact BK522.out) hg (Kd.R_ne HO543.out BK522.out (by decide))); have n4_ := Aside0.mk (blk_grown (g := gb532) (o := .cells #[.bool t523, .int .i64 t524, .bool t525, .int .i64 t526, .slice Ao64 t527.length co64] 24 (0, 0)) (by (with_reducible repeat (first | refine blk_drewN ?_ _ | refine blk_drew ?_ | refine blk_alloc ?_ _)); exact BK532.out) hg (Kd.R_ne HO543.out BK532.out (by decide))); have n5_ := Aside0.mk (Kd.R_after (v := (.slice (some ⟨go92, 0, none⟩) y541.length co106)) (v1 := (.slice (some ⟨go92, 0, none⟩) y541.length co106)) (ok := (fun _ => True)) (by (with_reducible repeat (first | apply Kd.R_alloc | apply Kd.R_drewN | apply Kd.R_drew)); exact HO540.out) hg (.inl rfl)); have n6_ := Aside0.mk (hp_); have n7_ := Aside0.mk ((by rw [hw]; exact below_set (HB.out) GB92.out : Below w.heap.size w w110)); clear HO_523004; clear HO_533004; clear BK494; clear BK522; clear BK532; clear HO540; clear HO543; clear HB; have HO_523004 := n0_; have HO_533004 := n1_; have BK494 := n2_; have BK522 := n3_; have BK532 := n4_; have HO540 := n5_; have HO543 := n6_; have HB := n7_; clear n0_ n1_ n2_ n3_ n4_ n5_ n6_ n7_; clear hg hw hp_; obtain ⟨i0111, hi0111, _, hsz111, _⟩ := info_parts info3; obtain ⟨hcut111, hA111, hC111⟩ := print_take_of (P := Try.prog) (Value.int .i64) 0 25 3 .i64 Try.underlying25 hi0111 hsz111 A2 c2 l2 (y541.length : Int) (of_decide_eq_true (by first | (with_reducible assumption) | assumption)) (of_decide_eq_true (by first | (with_reducible assumption) | assumption)) HC2.out; have HR546 := Aside0.mk (Kd.C_of_reads (h1 := fun _ => rfl) (hA111 _ (Kd.reads_of_C HR2.out))); have HC546 := Aside0.mk hC111; clear hA111 hC111 hi0111 hsz111) | (go_at_call 13; refine calls_of_args (args' := #[.slice (some ⟨go92, 0, none⟩) y545.length co106, .slice A2 (l2.take ((y541.length : Int) : Int).toNat).length c2]) (by first | (simp only [Int.toNat_natCast, List.length_take, show y545.length = y541.length from (Kd.R_reads' HO543.out).1.symm]; done) | (rw [show y545.length = y541.length from (Kd.R_reads' HO543.out).1.symm] <;> rfl) | rfl) ?_; (with_reducible refine (phaetonref01_Same.calls kj42 _ _ y545 _ _ (l2.take ((y541.length : Int) : Int).toNat) true _ ?side1 ?side2 ?side3 ?side4 A96.out).mono ?_); (case side1 => repeat (first | exact (Kd.R_reads' HO543.out).2.2 | (with_reducible refine Kd.C_alloc ?_ _) | (with_reducible refine Kd.C_drewN ?_ _) | (with_reducible refine Kd.C_drew ?_))); (case side2 => rw [show y545.length = y541.length from (Kd.R_reads' HO543.out).1.symm]; exact (Kd.R_reads' HO543.out).2.1); (case side3 => repeat (first | exact (Kd.C_below HR546.out HB.out) | (with_reducible refine Kd.C_alloc ?_ _) | (with_reducible refine Kd.C_drewN ?_ _) | (with_reducible refine Kd.C_drew ?_))); (case side4 => exact HC546.out); rintro e w' ⟨rfl, ⟨nd, rfl⟩⟩))
                          go_ret
                          exact ⟨by first | rfl | (simp [errW_none, errW_some] <;> rfl) | (simp only [← hji33, ← hji38, ← hji89]; first | rfl | (simp [errW_none, errW_some] <;> rfl)) | (simp [*, errW_none, errW_some] <;> rfl), by repeat (first | (with_reducible first | exact HB.out | apply below_alloc | apply pw_below_drewN | apply below_drew1 | refine below_set ?_ GE494.out | refine below_set ?_ GE522.out | refine below_set ?_ GE532.out) | exact HB.out)⟩
                         ·replace c97 := Bool.eq_false_iff.mpr c97
                          subst c97
                          have H1 : (none) = some r := by rw [if_neg (show ¬ (false = true) by decide)] at H; exact H
                          clear H
                          have H := H1
                          clear H1
                          exact absurd H (by simp)
                        ·exfalso; (try simp only [decide_eq_true_eq, decide_eq_false_iff_not, beq_iff_eq, beq_eq_false_iff_ne, ne_eq] at c85b0); omega
                       ·rw [if_neg c94] at H
                        exact absurd H (by simp)
                      ·replace c93 := Bool.eq_false_iff.mpr c93
                       subst c93
                       have H1 : (none) = some r := by rw [if_neg (show ¬ (false = true) by decide)] at H; exact H
                       clear H
                       have H := H1
                       clear H1
                       exact absurd H (by simp)
                     ·rw [if_neg c91] at H
                      exact absurd H (by simp)
                    ·rw [if_neg c90] at H
                     exact absurd H (by simp)
                   ·replace c88 := Bool.eq_false_iff.mpr c88
                    subst c88
                    have H1 : (none) = some r := by rw [if_neg (show ¬ (false = true) by decide)] at H; exact H
                    clear H
                    have H := H1
                    clear H1
                    exact absurd H (by simp)
                  ·rw [if_neg c86] at H
                   exact absurd H (by simp)
               ·rw [if_neg c83] at H
                exact absurd H (by simp)
              ·rw [if_neg c81] at H
               have c81b0 : (t530 == 0) = false := beq_eq_false_iff_ne.mpr c81
               have c81b1 : (t530 != 0) = true := bne_iff_ne.mpr c81
               by_cases c112 : t495 = true
               ·subst c112
                have H1 : (if t531 ≥ 0 then (if t531 ≤ (l2.length : Int) then (if t530 = 5 then (some true) else ((phaetonref04_Same.f t523 t524 t525 t526 t527 false 0 false 0 ([] : List Int)).bind fun t534 => (if t534 = true then (some true) else (none)))) else (none)) else (none)) = some r := by rw [if_pos rfl] at H; exact H
                clear H
                have H := H1
                clear H1
                by_cases c113 : t531 ≥ 0
                ·rw [if_pos c113] at H
                 have c113b0 : decide (0 ≤ t531) = true := decide_eq_true c113
                 clear c113
                 by_cases c114 : t531 ≤ (l2.length : Int)
                 ·rw [if_pos c114] at H
                  have c114b0 : decide (t531 ≤ (l2.length : Int)) = true := decide_eq_true c114
                  clear c114
                  by_cases c115 : t530 = 5
                  ·rw [if_pos c115] at H
                   have c115b0 : (t530 == 5) = true := beq_iff_eq.mpr c115
                   have c115b1 : (t530 != 5) = false := bne_eq_false_iff_eq.mpr c115
                   clear c115
                   obtain rfl := Option.some.inj H
                   go_wp2
                   go_ret
                   exact ⟨by first | rfl | (simp [errW_none, errW_some] <;> rfl) | (simp only [← hji33, ← hji38]; first | rfl | (simp [errW_none, errW_some] <;> rfl)) | (simp [*, errW_none, errW_some] <;> rfl), by repeat (first | (with_reducible first | exact HB.out | apply below_alloc | apply pw_below_drewN | apply below_drew1 | refine below_set ?_ GE494.out | refine below_set ?_ GE522.out | refine below_set ?_ GE532.out) | exact HB.out)⟩
                  ·rw [if_neg c115] at H
                   have c115b0 : (t530 == 5) = false := beq_eq_false_iff_ne.mpr c115
                   have c115b1 : (t530 != 5) = true := bne_iff_ne.mpr c115
                   replace H := Option.bind_eq_some_iff.mp H
                   obtain ⟨t534, A1160, H⟩ := H
                   replace H : (if t534 = true then (some true) else (none)) = some r := H
                   have A116 := Aside0.mk A1160
                   clear A1160
                   by_cases c117 : t534 = true
                   ·subst c117
                    have H1 : (some true) = some r := by rw [if_pos rfl] at H; exact H
                    clear H
                    have H := H1
                    clear H1
                    obtain rfl := Option.some.inj H
                    have hnb118 := NB532_494.out
                    have hnc118 := NB494_532.out
                    have hnb119 := NB532_522.out
                    have hnc119 := NB522_532.out
                    have hcz120_0 : wc.cell? ⟨gb532, 0, none⟩ = some (.bool t523) := (blk_cell BK532.out 0).trans rfl
                    have hcz120_1 : wc.cell? ⟨gb532, 1, none⟩ = some (.int .i64 t524) := (blk_cell BK532.out 1).trans rfl
                    have hcz120_2 : wc.cell? ⟨gb532, 2, none⟩ = some (.bool t525) := (blk_cell BK532.out 2).trans rfl
                    have hcz120_3 : wc.cell? ⟨gb532, 3, none⟩ = some (.int .i64 t526) := (blk_cell BK532.out 3).trans rfl
                    have hcz120_4 : wc.cell? ⟨gb532, 4, none⟩ = some (.slice Ao64 t527.length co64) := (blk_cell BK532.out 4).trans rfl
                    have hfz120_0 := blk_frozen BK532.out 0
                    have hfz120_1 := blk_frozen BK532.out 1
                    have hfz120_2 := blk_frozen BK532.out 2
                    have hfz120_3 := blk_frozen BK532.out 3
                    have hfz120_4 := blk_frozen BK532.out 4
                    go_wp2_with (first | ((with_reducible refine gate_store (t := 24) (p := 13) rfl ?_); refine HW.store_box2 rfl rfl 24 _ _ rfl rfl rfl BK532.out rfl (by kernel_rfl) (by intro q hq; simp only [List.mem_cons, List.not_mem_nil, or_false] at hq; rcases hq with rfl | rfl | rfl | rfl | rfl <;> rfl) ?_; intro w1_ hw1_ hk1_; simp only [List.toList_toArray, World.setCells, Nat.zero_add, Nat.reduceAdd] at hw1_; subst hw1_; have hcb532_0 := (blk_cell hk1_ 0).trans rfl; have hfb532_0 := blk_frozen hk1_ 0; have hcb532_1 := (blk_cell hk1_ 1).trans rfl; have hfb532_1 := blk_frozen hk1_ 1; have hcb532_2 := (blk_cell hk1_ 2).trans rfl; have hfb532_2 := blk_frozen hk1_ 2; have hcb532_3 := (blk_cell hk1_ 3).trans rfl; have hfb532_3 := blk_frozen hk1_ 3; have hcb532_4 := (blk_cell hk1_ 4).trans rfl; have hfb532_4 := blk_frozen hk1_ 4; clear hk1_) | ((with_reducible refine gate_store (t := 24) (p := 10) rfl ?_); refine HW.store_box2 rfl rfl 24 _ _ rfl rfl rfl BK522.out rfl (by kernel_rfl) (by intro q hq; simp only [List.mem_cons, List.not_mem_nil, or_false] at hq; rcases hq with rfl | rfl | rfl | rfl | rfl <;> rfl) ?_; intro w1_ hw1_ hk1_; simp only [List.toList_toArray, World.setCells, Nat.zero_add, Nat.reduceAdd] at hw1_; subst hw1_; have hcb522_0 := (blk_cell hk1_ 0).trans rfl; have hfb522_0 := blk_frozen hk1_ 0; have hcb522_1 := (blk_cell hk1_ 1).trans rfl; have hfb522_1 := blk_frozen hk1_ 1; have hcb522_2 := (blk_cell hk1_ 2).trans rfl; have hfb522_2 := blk_frozen hk1_ 2; have hcb522_3 := (blk_cell hk1_ 3).trans rfl; have hfb522_3 := blk_frozen hk1_ 3; have hcb522_4 := (blk_cell hk1_ 4).trans rfl; have hfb522_4 := blk_frozen hk1_ 4; clear hk1_) | ((with_reducible refine gate_store (t := 24) (p := 3) rfl ?_); refine HW.store_box2 rfl rfl 24 _ _ rfl rfl rfl BK494.out rfl (by kernel_rfl) (by intro q hq; simp only [List.mem_cons, List.not_mem_nil, or_false] at hq; rcases hq with rfl | rfl | rfl | rfl | rfl <;> rfl) ?_; intro w1_ hw1_ hk1_; simp only [List.toList_toArray, World.setCells, Nat.zero_add, Nat.reduceAdd] at hw1_; subst hw1_; have hcb494_0 := (blk_cell hk1_ 0).trans rfl; have hfb494_0 := blk_frozen hk1_ 0; have hcb494_1 := (blk_cell hk1_ 1).trans rfl; have hfb494_1 := blk_frozen hk1_ 1; have hcb494_2 := (blk_cell hk1_ 2).trans rfl; have hfb494_2 := blk_frozen hk1_ 2; have hcb494_3 := (blk_cell hk1_ 3).trans rfl; have hfb494_3 := blk_frozen hk1_ 3; have hcb494_4 := (blk_cell hk1_ 4).trans rfl; have hfb494_4 := blk_frozen hk1_ 4; clear hk1_) | (go_at_call 23; (refine (phaetonref04_Same.calls t523 t524 t525 t526 _ _ t527 false 0 false 0 _ _ ([] : List Int) true _ ?side1 ?side2 ?side3 ?side4 A116.out).mono ?_); (case side1 => repeat (first | exact (Kd.R_reads' HO_533004.out).2.2 | (with_reducible refine Kd.C_alloc ?_ _) | (with_reducible refine Kd.C_drewN ?_ _) | (with_reducible refine Kd.C_drew ?_))); (case side2 => exact (Kd.R_reads' HO_533004.out).2.1); (case side3 => exact Kd.C_nil _ _); (case side4 => exact Nat.le_refl _); rintro e w121 ⟨rfl, hb⟩; have n0_ := Aside0.mk (Kd.R_below (by (with_reducible repeat (first | apply Kd.R_alloc | apply Kd.R_drewN | apply Kd.R_drew)); exact HO_523004.out) hb); have n1_ := Aside0.mk (Kd.R_below (by (with_reducible repeat (first | apply Kd.R_alloc | apply Kd.R_drewN | apply Kd.R_drew)); exact HO_533004.out) hb); have n2_ := Aside0.mk (blk_below (g := gb494) (o := .cells #[.bool a0_0, .int .i64 a0_1, .bool a0_2, .int .i64 a0_3, .slice A0_4 l0_4.length c0_4] 24 (0, 0)) (by (with_reducible repeat (first | refine blk_drewN ?_ _ | refine blk_drew ?_ | refine blk_alloc ?_ _)); exact BK494.out) hb); have n3_ := Aside0.mk (blk_below (g := gb522) (o := .cells #[.bool t513, .int .i64 t514, .bool t515, .int .i64 t516, .slice Ao58 t517.length co58] 24 (0, 0)) (by (with_reducible repeat (first | refine blk_drewN ?_ _ | refine blk_drew ?_ | refine blk_alloc ?_ _)); exact BK522.out) hb); have n4_ := Aside0.mk (blk_below (g := gb532) (o := .cells #[.bool t523, .int .i64 t524, .bool t525, .int .i64 t526, .slice Ao64 t527.length co64] 24 (0, 0)) (by (with_reducible repeat (first | refine blk_drewN ?_ _ | refine blk_drew ?_ | refine blk_alloc ?_ _)); exact BK532.out) hb); have n5_ := Aside0.mk (below_step (by repeat (first | (with_reducible first | exact HB.out | apply below_alloc | apply pw_below_drewN | apply below_drew1 | refine below_set ?_ GE494.out | refine below_set ?_ GE522.out | refine below_set ?_ GE532.out) | exact HB.out)) hb); clear HO_523004; clear HO_533004; clear BK494; clear BK522; clear BK532; clear HB; have HO_523004 := n0_; have HO_533004 := n1_; have BK494 := n2_; have BK522 := n3_; have BK532 := n4_; have HB := n5_; clear n0_ n1_ n2_ n3_ n4_ n5_; (try clear hb); (try clear hb2); (try clear hk); (try clear hi)))
                    go_ret
                    exact ⟨by first | rfl | (simp [errW_none, errW_some] <;> rfl) | (simp only [← hji33, ← hji38]; first | rfl | (simp [errW_none, errW_some] <;> rfl)) | (simp [*, errW_none, errW_some] <;> rfl), by repeat (first | (with_reducible first | exact HB.out | apply below_alloc | apply pw_below_drewN | apply below_drew1 | refine below_set ?_ GE494.out | refine below_set ?_ GE522.out | refine below_set ?_ GE532.out) | exact HB.out)⟩
                   ·replace c117 := Bool.eq_false_iff.mpr c117
                    subst c117
                    have H1 : (none) = some r := by rw [if_neg (show ¬ (false = true) by decide)] at H; exact H
                    clear H
                    have H := H1
                    clear H1
                    exact absurd H (by simp)
                 ·rw [if_neg c114] at H
                  exact absurd H (by simp)
                ·rw [if_neg c113] at H
                 exact absurd H (by simp)
               ·replace c112 := Bool.eq_false_iff.mpr c112
                subst c112
                have H1 : (none) = some r := by rw [if_neg (show ¬ (false = true) by decide)] at H; exact H
                clear H
                have H := H1
                clear H1
                exact absurd H (by simp)
          ·rw [if_neg c40] at H
           exact absurd H (by simp)
         ·rw [if_neg c39] at H
          exact absurd H (by simp)
       ·rw [if_neg c35] at H
        exact absurd H (by simp)
      ·rw [if_neg c34] at H
       exact absurd H (by simp)
    ·rw [if_neg c31] at H
     exact absurd H (by simp)

/-- THE ONE PURE STATEMENT of phaetonlaw05_WireShort. -/
def phaetonlaw05_WireShort.Pure : Prop := ∀ (a0_0 : Bool) (a0_1 : Int) (a0_2 : Bool) (a0_3 : Int) (l0_4 : List Int) (a1 : Int) (l2 : List Int), (Lit.int .i64 a0_1).wf = true → (Lit.int .i64 a0_3).wf = true → l0_4.length ≤ maxLen → (∀ x ∈ l0_4, (fun (x : Int) => (Lit.int .u8 x).wf = true) x) → (Lit.int .u8 a1).wf = true → l2.length ≤ maxLen → l2.length * 8 ≤ 140737488351232 → (∀ x ∈ l2, (fun (x : Int) => (Lit.int .i64 x).wf = true) x) → ∃ k, phaetonlaw05_WireShort.f k a0_0 a0_1 a0_2 a0_3 l0_4 a1 l2 = some true
theorem phaetonlaw05_WireShort.walk (P : phaetonlaw05_WireShort.Pure) (a0_0 : Bool) (a0_1 : Int) (a0_2 : Bool) (a0_3 : Int) (A0_4 : Option Addr) (c0_4 : Nat) (l0_4 : List Int) (a1 : Int) (A2 : Option Addr) (c2 : Nat) (l2 : List Int) (w : World) (hw0_1 : (Lit.int .i64 a0_1).wf = true) (hw0_3 : (Lit.int .i64 a0_3).wf = true) (hw0_4 : ∀ x ∈ l0_4, (fun (x : Int) => (Lit.int .u8 x).wf = true) x) (hr0_4 : Kd.C (Kd.int .u8) w A0_4 l0_4.length l0_4) (hc0_4 : l0_4.length ≤ c0_4) (hw1 : (Lit.int .u8 a1).wf = true) (y2 : l2.length * 8 ≤ 140737488351232) (hw2 : ∀ x ∈ l2, (fun (x : Int) => (Lit.int .i64 x).wf = true) x) (hr2 : Kd.C (Kd.int .i64) w A2 l2.length l2) (hc2 : l2.length ≤ c2) :
  Calls Try.prog 5 #[.agg #[.bool a0_0, .int .i64 a0_1, .bool a0_2, .int .i64 a0_3, .slice A0_4 l0_4.length c0_4], .int .u8 a1, .slice A2 l2.length c2] w fun e w' => e = .returned (.bool true) ∧ Below w.heap.size w w' := by
 obtain ⟨k, h⟩ := P a0_0 a0_1 a0_2 a0_3 l0_4 a1 l2 hw0_1 hw0_3 (by have := hr0_4.2.1; unfold maxLen; omega) hw0_4 hw1 (by have := hr2.2.1; unfold maxLen; omega) y2 hw2
 refine (phaetonlaw05_WireShort.calls k a0_0 a0_1 a0_2 a0_3 _ _ l0_4 a1 _ _ l2 true w hr0_4 hc0_4 hr2 hc2 h).mono ?_
 rintro e w' ⟨rfl, hd⟩
 exact ⟨rfl, hd⟩

end Go.Proofs.Ythgeekcobmhbfaa.Px

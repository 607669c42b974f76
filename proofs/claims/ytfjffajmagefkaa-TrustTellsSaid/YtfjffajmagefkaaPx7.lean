-- Written by myprint.py, a program of this session's, over the kit's print.py; not a text of print.sh's own.
import Derived.Test.YtfjffajmagefkaaPx0
import Derived.Test.YtfjffajmagefkaaPx1
import Derived.Test.YtfjffajmagefkaaPx2
import Derived.Test.YtfjffajmagefkaaPx3
import Derived.Test.YtfjffajmagefkaaPx4
import Derived.Test.YtfjffajmagefkaaPx5
import Derived.Test.YtfjffajmagefkaaPx6
namespace Go.Proofs.Ytfjffajmagefkaa.Px
open Go.RowKit Go.Proofs.YtfjffajmagefkaaW.PrintWords Go.Proofs.YtfjffajmagefkaaW.PrintLast Go.Proofs.YtfjffajmagefkaaW.PrintMore
attribute [local go_sem] max2_int min2_int max_two min_two max_three min_three max_four min_four   -- for this text's walks alone
set_option linter.unusedVariables false
set_option linter.unusedSimpArgs false

attribute [local go_sem high] eqA24
/-! ### phaetonref16_Check: function 20 -/
def phaetonref16_Check.j0 : Nat → Int → List Int → Int → Int → Bool → Int → Int → Int → Option (Bool × Int × Int × Int × List Int × Int)
  | 0, _, _, _, _, _, _, _, _ => none
  | k + 1, x3, x11, x12, x14, x233000, x233001, x233002, x233003 => if x233000 = true then (if x14 = 0 then (if 3 = 3 then (some (true, x12, 3, wrap64 (x233003 + 1), ([] : List Int), 3)) else (if 3 = 6 then (some (true, x12, 3, wrap64 (x233003 + 1), ([] : List Int), 3)) else (some (true, x12, 3, 0, x11, 3)))) else (if x14 = 1 then (if 1 = 3 then (some (true, x12, 1, wrap64 (x233003 + 1), ([] : List Int), 1)) else (if 1 = 6 then (some (true, x12, 1, wrap64 (x233003 + 1), ([] : List Int), 1)) else (some (true, x12, 1, 0, x11, 1)))) else (if x14 ≤ x3 then (if 4 = 3 then (some (true, x12, 4, wrap64 (x233003 + 1), ([] : List Int), 4)) else (if 4 = 6 then (some (true, x12, 4, wrap64 (x233003 + 1), ([] : List Int), 4)) else (some (true, x12, 4, 0, x11, 4)))) else (if 6 = 3 then (some (true, x12, 6, wrap64 (x233003 + 1), ([] : List Int), 6)) else (if 6 = 6 then (some (true, x12, 6, wrap64 (x233003 + 1), ([] : List Int), 6)) else (some (true, x12, 6, 0, x11, 6))))))) else (if 2 = 3 then (some (true, x12, 2, wrap64 (x233003 + 1), ([] : List Int), 2)) else (if 2 = 6 then (some (true, x12, 2, wrap64 (x233003 + 1), ([] : List Int), 2)) else (some (true, x12, 2, 0, x11, 2))))
def phaetonref16_Check.f (k : Nat) (a0_0 : Bool) (a0_1 : Int) (a0_2 : Int) (a0_3 : Int) (a1 : Int) (l2 : List Int) (a3 : Int) : Option (Bool × Int × Int × Int × List Int × Int) := (phaetonref16_Open.f k a1 l2).bind fun bt234 => (if bt234.2.2 = true then (if (wrap64 (bt234.2.1 - a0_1)) < 0 then (phaetonref16_Check.j0 k a3 bt234.1 bt234.2.1 (wrap64 ((wrap64 (bt234.2.1 - a0_1)) + 15)) a0_0 a0_1 a0_2 a0_3) else (phaetonref16_Check.j0 k a3 bt234.1 bt234.2.1 (wrap64 (bt234.2.1 - a0_1)) a0_0 a0_1 a0_2 a0_3)) else (some (a0_0, a0_1, 5, wrap64 (a0_3 + 1), ([] : List Int), 5)))
theorem phaetonref16_Check.mono_l : ∀ k, (∀ y0 y1 y2 y3 y4 y5 y6 y7, LeO (phaetonref16_Check.j0 k y0 y1 y2 y3 y4 y5 y6 y7) (phaetonref16_Check.j0 (k + 1) y0 y1 y2 y3 y4 y5 y6 y7))
  | 0 => fun _ _ _ _ _ _ _ _ r h => by simp [phaetonref16_Check.j0] at h
  | k + 1 => by
    have ih0 := phaetonref16_Check.mono_l k
    · intro y0 y1 y2 y3 y4 y5 y6 y7
      unfold phaetonref16_Check.j0
      repeat' first
      | (with_reducible exact ih0 _ _ _ _ _ _ _ _)
      | (with_reducible exact phaetonref16_Open.mono _ _ _)
      | (with_reducible exact LeO.refl _)
      | (with_reducible exact LeO.none _)
      | (with_reducible refine LeO.ite ?_ ?_)
      | (with_reducible refine LeO.bind ?_ (fun _ => ?_))
      | exact ih0 _ _ _ _ _ _ _ _
      | exact phaetonref16_Open.mono _ _ _
      | exact LeO.none _
      | refine LeO.ite ?_ ?_
      | refine LeO.bind ?_ (fun _ => ?_)
theorem phaetonref16_Check.mono : ∀ a0 a1 a2 a3 a4 a5 a6 k, LeO (phaetonref16_Check.f k a0 a1 a2 a3 a4 a5 a6) (phaetonref16_Check.f (k + 1) a0 a1 a2 a3 a4 a5 a6) := by
  intro a0 a1 a2 a3 a4 a5 a6 k
  have ih0 := phaetonref16_Check.mono_l k
  unfold phaetonref16_Check.f
  repeat' first
      | (with_reducible exact ih0 _ _ _ _ _ _ _ _)
      | (with_reducible exact phaetonref16_Open.mono _ _ _)
      | (with_reducible exact LeO.refl _)
      | (with_reducible exact LeO.none _)
      | (with_reducible refine LeO.ite ?_ ?_)
      | (with_reducible refine LeO.bind ?_ (fun _ => ?_))
      | exact ih0 _ _ _ _ _ _ _ _
      | exact phaetonref16_Open.mono _ _ _
      | exact LeO.none _
      | refine LeO.ite ?_ ?_
      | refine LeO.bind ?_ (fun _ => ?_)
set_option maxHeartbeats 8000000 in
set_option maxRecDepth 100000 in
theorem phaetonref16_Check.calls (k : Nat) (a0_0 : Bool) (a0_1 : Int) (a0_2 : Int) (a0_3 : Int) (a1 : Int) (A2 : Option Addr) (c2 : Nat) (l2 : List Int) (a3 : Int) (r1 : Bool) (r2 : Int) (r3 : Int) (r4 : Int) (r5 : List Int) (r6 : Int) (w : World) (hr2 : Kd.C (Kd.int .u8) w A2 l2.length l2) (hc2 : l2.length ≤ c2) (h : phaetonref16_Check.f k a0_0 a0_1 a0_2 a0_3 a1 l2 a3 = some (r1, r2, r3, r4, r5, r6)) :
    Calls Try.prog 20 #[.agg #[.bool a0_0, .int .i64 a0_1, .int .i64 a0_2, .int .i64 a0_3], .int .i64 a1, .slice A2 l2.length c2, .int .i64 a3] w fun e w' => ∃ v4_ : Value, e = .returned (.tuple #[.agg #[.bool r1, .int .i64 r2, .int .i64 r3, .int .i64 r4], v4_, .int .i64 r6]) ∧ Kd.R (Kd.int .u8) 5 w' w.heap.size (fun _ => True) v4_ r5 ∧ Below w.heap.size w w' := by
  have hu24 := Try.underlying24
  have HR2 := Aside0.mk hr2
  have HC2 := Aside0.mk hc2
  clear hr2 hc2
  have HB := Aside0.mk (Below.refl w.heap.size w)
  have H : ((phaetonref16_Open.f k a1 l2).bind fun bt234 => (if bt234.2.2 = true then (if (wrap64 (bt234.2.1 - a0_1)) < 0 then (phaetonref16_Check.j0 k a3 bt234.1 bt234.2.1 (wrap64 ((wrap64 (bt234.2.1 - a0_1)) + 15)) a0_0 a0_1 a0_2 a0_3) else (phaetonref16_Check.j0 k a3 bt234.1 bt234.2.1 (wrap64 (bt234.2.1 - a0_1)) a0_0 a0_1 a0_2 a0_3)) else (some (a0_0, a0_1, 5, wrap64 (a0_3 + 1), ([] : List Int), 5)))) = some (r1, r2, r3, r4, r5, r6) := h
  clear h
  replace H := Option.bind_eq_some_iff.mp H
  obtain ⟨⟨t234, t235, t236⟩, A50, H⟩ := H
  replace H : (if t236 = true then (if (wrap64 (t235 - a0_1)) < 0 then (phaetonref16_Check.j0 k a3 t234 t235 (wrap64 ((wrap64 (t235 - a0_1)) + 15)) a0_0 a0_1 a0_2 a0_3) else (phaetonref16_Check.j0 k a3 t234 t235 (wrap64 (t235 - a0_1)) a0_0 a0_1 a0_2 a0_3)) else (some (a0_0, a0_1, 5, wrap64 (a0_3 + 1), ([] : List Int), 5))) = some (r1, r2, r3, r4, r5, r6) := H
  have A5 := Aside0.mk A50
  clear A50
  by_cases c6 : t236 = true
  · subst c6
    have H1 : (if (wrap64 (t235 - a0_1)) < 0 then (phaetonref16_Check.j0 k a3 t234 t235 (wrap64 ((wrap64 (t235 - a0_1)) + 15)) a0_0 a0_1 a0_2 a0_3) else (phaetonref16_Check.j0 k a3 t234 t235 (wrap64 (t235 - a0_1)) a0_0 a0_1 a0_2 a0_3)) = some (r1, r2, r3, r4, r5, r6) := by rw [if_pos rfl] at H; exact H
    clear H
    have H := H1
    clear H1
    have HC7 := Aside0.mk H
    clear H
    go_enter Try.func20, Try.ntmps20
    go_upto_if 36 with (first | ((with_reducible refine gate_dst (N := 4) rfl ?_); refine box_event ?hg (N := 4) ?hd (cs := #[.bool a0_0, .int .i64 a0_1, .int .i64 a0_2, .int .i64 a0_3]) (t := 24) ?hr ?_; (case hd => rfl); (case hg => rfl); (case hr => first | (go_simp; done) | (go_simp; rfl)); intro gb232 hg w8 hbox hb; have n0_ := Aside0.mk (below_step (by repeat (first | (with_reducible first | exact HB.out | apply below_alloc | apply pw_below_drewN | apply below_drew1) | exact HB.out)) hb); have n1_ := Aside0.mk (hbox); have n2_ := Aside0.mk ((by rw [hg]; exact (below_size (by repeat (first | (with_reducible first | exact HB.out | apply below_alloc | apply pw_below_drewN | apply below_drew1) | exact HB.out))) : w.heap.size ≤ gb232)); have n3_ := Aside0.mk ((by rw [hg]; exact (below_size (by repeat (first | (with_reducible first | exact HB.out | apply below_alloc | apply pw_below_drewN | apply below_drew1) | exact HB.out))) : w.heap.size ≤ gb232)); clear HB; have HB := n0_; have BK232 := n1_; have GW232 := n2_; have GE232 := n3_; clear n0_ n1_ n2_ n3_; clear hb hbox hg) | ((with_reducible refine gate_dst (N := 8) rfl ?_); refine box_event ?hg (N := 8) ?hd (cs := #[.bool false, .int .i64 0, .int .i64 0, .int .i64 0]) (t := 24) ?hr ?_; (case hd => rfl); (case hg => rfl); (case hr => first | (go_simp; done) | (go_simp; rfl)); intro gb233 hg w9 hbox hb; have n0_ := Aside0.mk (blk_below (g := gb232) (o := .cells #[.bool a0_0, .int .i64 a0_1, .int .i64 a0_2, .int .i64 a0_3] 24 (0, 0)) (by (with_reducible repeat (first | refine blk_drewN ?_ _ | refine blk_drew ?_ | refine blk_alloc ?_ _)); exact BK232.out) hb); have n1_ := Aside0.mk (below_step (by repeat (first | (with_reducible first | exact HB.out | apply below_alloc | apply pw_below_drewN | apply below_drew1 | refine below_set ?_ GE232.out) | exact HB.out)) hb); have n2_ := Aside0.mk (hbox); have n3_ := Aside0.mk ((by rw [hg]; exact (below_size (by repeat (first | (with_reducible first | exact HB.out | apply below_alloc | apply pw_below_drewN | apply below_drew1 | refine below_set ?_ GE232.out) | exact HB.out))) : w.heap.size ≤ gb233)); have n4_ := Aside0.mk ((by rw [hg]; exact (below_size (by repeat (first | (with_reducible first | exact HB.out | apply below_alloc | apply pw_below_drewN | apply below_drew1 | refine below_set ?_ GE232.out) | exact HB.out))) : w.heap.size ≤ gb233)); have n5_ := Aside0.mk ((by rw [hg]; exact Nat.ne_of_lt (blk_lt (g := gb232) (o := .cells #[.bool a0_0, .int .i64 a0_1, .int .i64 a0_2, .int .i64 a0_3] 24 (0, 0)) (by (with_reducible repeat (first | refine blk_drewN ?_ _ | refine blk_drew ?_ | refine blk_alloc ?_ _)); exact BK232.out)) : gb232 ≠ gb233)); have n6_ := Aside0.mk ((by rw [hg]; exact Nat.ne_of_gt (blk_lt (g := gb232) (o := .cells #[.bool a0_0, .int .i64 a0_1, .int .i64 a0_2, .int .i64 a0_3] 24 (0, 0)) (by (with_reducible repeat (first | refine blk_drewN ?_ _ | refine blk_drew ?_ | refine blk_alloc ?_ _)); exact BK232.out)) : gb233 ≠ gb232)); clear BK232; clear HB; have BK232 := n0_; have HB := n1_; have BK233 := n2_; have GW233 := n3_; have GE233 := n4_; have NB232_233 := n5_; have NB233_232 := n6_; clear n0_ n1_ n2_ n3_ n4_ n5_ n6_; clear hb hbox hg) | ((with_reducible refine gate_callee (f := 14) rfl ?_); refine goesL_ (some 19) rfl rfl Try.func14 (by kernel_rfl) rfl #[.int .i64 a1, .slice A2 l2.length c2] rfl (by (try simp only [List.map_toArray, List.map_cons, List.map_nil]); first | done | rfl | (simp only [List.length_drop, List.length_take]; rfl)) ?_; (with_reducible refine (phaetonref16_Open.calls k a1 _ _ l2 t234 t235 true _ ?side1 ?side2 A5.out).mono ?_); (case side1 => repeat (first | exact (Kd.C_below HR2.out HB.out) | (with_reducible refine Kd.C_alloc ?_ _) | (with_reducible refine Kd.C_drewN ?_ _) | (with_reducible refine Kd.C_drew ?_))); (case side2 => exact HC2.out); rintro e w10 ⟨v237, rfl, ho0, hb⟩; refine ⟨_, rfl, ?_⟩; have n0_ := Aside0.mk (Kd.R_lower ho0 (below_size (by repeat (first | (with_reducible first | exact HB.out | apply below_alloc | apply pw_below_drewN | apply below_drew1 | refine below_set ?_ GE232.out | refine below_set ?_ GE233.out) | exact HB.out)))); have n1_ := Aside0.mk (blk_below (g := gb232) (o := .cells #[.bool a0_0, .int .i64 a0_1, .int .i64 a0_2, .int .i64 a0_3] 24 (0, 0)) (by (with_reducible repeat (first | refine blk_drewN ?_ _ | refine blk_drew ?_ | refine blk_alloc ?_ _)); exact BK232.out) hb); have n2_ := Aside0.mk (blk_below (g := gb233) (o := .cells #[.bool false, .int .i64 0, .int .i64 0, .int .i64 0] 24 (0, 0)) (by (with_reducible repeat (first | refine blk_drewN ?_ _ | refine blk_drew ?_ | refine blk_alloc ?_ _)); exact BK233.out) hb); have n3_ := Aside0.mk (below_step (by repeat (first | (with_reducible first | exact HB.out | apply below_alloc | apply pw_below_drewN | apply below_drew1 | refine below_set ?_ GE232.out | refine below_set ?_ GE233.out) | exact HB.out)) hb); clear BK232; clear BK233; clear HB; have HO238 := n0_; have BK232 := n1_; have BK233 := n2_; have HB := n3_; clear n0_ n1_ n2_ n3_; (try clear hb); (try clear hb2); (try clear hk); (try clear hi); (try clear ho0); have hnb11 := NB232_233.out; have hnc11 := NB233_232.out; have hcz12_0 : w10.cell? ⟨gb232, 0, none⟩ = some (.bool a0_0) := (blk_cell BK232.out 0).trans rfl; have hcz12_1 : w10.cell? ⟨gb232, 1, none⟩ = some (.int .i64 a0_1) := (blk_cell BK232.out 1).trans rfl; have hcz12_2 : w10.cell? ⟨gb232, 2, none⟩ = some (.int .i64 a0_2) := (blk_cell BK232.out 2).trans rfl; have hcz12_3 : w10.cell? ⟨gb232, 3, none⟩ = some (.int .i64 a0_3) := (blk_cell BK232.out 3).trans rfl; have hfz12_0 := blk_frozen BK232.out 0; have hfz12_1 := blk_frozen BK232.out 1; have hfz12_2 := blk_frozen BK232.out 2; have hfz12_3 := blk_frozen BK232.out 3))
    (try simp only [Act.put, List.setIfInBounds_toArray, List.set_cons_zero, List.set_cons_succ])
    go_cut [14] (fun v14 wc => ∃ (kq : Nat) (x14_6 : Int), v14 = .int .i64 x14_6 ∧ Aside0 (phaetonref16_Check.j0 kq a3 t234 t235 x14_6 a0_0 a0_1 a0_2 a0_3 = some (r1, r2, r3, r4, r5, r6)) ∧ Aside0 (kq ≤ k) ∧ Aside0 (Kd.R (Kd.int .u8) 5 wc w.heap.size (fun _ => True) v237 t234) ∧ Aside0 (wc.heap[gb232]? = some (.cells #[.bool a0_0, .int .i64 a0_1, .int .i64 a0_2, .int .i64 a0_3] 24 (0, 0))) ∧ Aside0 (wc.heap[gb233]? = some (.cells #[.bool false, .int .i64 0, .int .i64 0, .int .i64 0] 24 (0, 0))) ∧ Aside0 (Below w.heap.size w wc))
    case first =>
      have H := HC7.out
      clear HC7
      by_cases c13 : (wrap64 (t235 - a0_1)) < 0
      · rw [if_pos c13] at H
        have c13b0 : decide ((wrap64 (t235 - a0_1)) < 0) = true := decide_eq_true c13
        clear c13
        (first | rw [c13b0] | (simp only [i64_w, i32_w]; rw [c13b0]) | skip)
        have H' := Aside0.mk H
        clear H
        go_wp2
        go_meet
        case rel => exact ⟨_, (wrap64 ((wrap64 (t235 - a0_1)) + 15)), (by first | rfl | (simp; done) | (simp [*]; done)), H', ⟨by first | omega | exact Nat.le_refl _⟩, ⟨by (with_reducible repeat (first | apply Kd.R_alloc | apply Kd.R_drewN | apply Kd.R_drew)); exact HO238.out⟩, ⟨by (with_reducible repeat (first | refine blk_drewN ?_ _ | refine blk_drew ?_ | refine blk_alloc ?_ _)); exact BK232.out⟩, ⟨by (with_reducible repeat (first | refine blk_drewN ?_ _ | refine blk_drew ?_ | refine blk_alloc ?_ _)); exact BK233.out⟩, ⟨by repeat (first | (with_reducible first | exact HB.out | apply below_alloc | apply pw_below_drewN | apply below_drew1 | refine below_set ?_ GE232.out | refine below_set ?_ GE233.out) | exact HB.out)⟩⟩
      · rw [if_neg c13] at H
        have c13b0 : decide ((wrap64 (t235 - a0_1)) < 0) = false := decide_eq_false c13
        clear c13
        (first | rw [c13b0] | (simp only [i64_w, i32_w]; rw [c13b0]) | skip)
        have H' := Aside0.mk H
        clear H
        go_wp2
        go_meet
        case rel => exact ⟨_, (wrap64 (t235 - a0_1)), (by first | rfl | (simp; done) | (simp [*]; done)), H', ⟨by first | omega | exact Nat.le_refl _⟩, ⟨by (with_reducible repeat (first | apply Kd.R_alloc | apply Kd.R_drewN | apply Kd.R_drew)); exact HO238.out⟩, ⟨by (with_reducible repeat (first | refine blk_drewN ?_ _ | refine blk_drew ?_ | refine blk_alloc ?_ _)); exact BK232.out⟩, ⟨by (with_reducible repeat (first | refine blk_drewN ?_ _ | refine blk_drew ?_ | refine blk_alloc ?_ _)); exact BK233.out⟩, ⟨by repeat (first | (with_reducible first | exact HB.out | apply below_alloc | apply pw_below_drewN | apply below_drew1 | refine below_set ?_ GE232.out | refine below_set ?_ GE233.out) | exact HB.out)⟩⟩
    case rest =>
      clear HC7
      try clear c1
      try clear c2
      try clear p2
      try clear c6
      try clear p6
      try clear c11
      try clear c13
      try clear c13b0
      try clear hcz12_0
      try clear hcz12_1
      try clear hcz12_2
      try clear hcz12_3
      try clear hfz12_0
      try clear hfz12_1
      try clear hfz12_2
      try clear hfz12_3
      obtain ⟨kq, x14_6, rfl, HA, HJ6, HO_11, BK232, BK233, HB⟩ := hcut
      cases kq with
      | zero => exact absurd HA.out (by simp [phaetonref16_Check.j0])
      | succ kj6 =>
        have H := HA.out
        clear HA
        simp only [phaetonref16_Check.j0] at H
        by_cases c14 : a0_0 = true
        · subst c14
          have H1 : (if x14_6 = 0 then (if 3 = 3 then (some (true, t235, 3, wrap64 (a0_3 + 1), ([] : List Int), 3)) else (if 3 = 6 then (some (true, t235, 3, wrap64 (a0_3 + 1), ([] : List Int), 3)) else (some (true, t235, 3, 0, t234, 3)))) else (if x14_6 = 1 then (if 1 = 3 then (some (true, t235, 1, wrap64 (a0_3 + 1), ([] : List Int), 1)) else (if 1 = 6 then (some (true, t235, 1, wrap64 (a0_3 + 1), ([] : List Int), 1)) else (some (true, t235, 1, 0, t234, 1)))) else (if x14_6 ≤ a3 then (if 4 = 3 then (some (true, t235, 4, wrap64 (a0_3 + 1), ([] : List Int), 4)) else (if 4 = 6 then (some (true, t235, 4, wrap64 (a0_3 + 1), ([] : List Int), 4)) else (some (true, t235, 4, 0, t234, 4)))) else (if 6 = 3 then (some (true, t235, 6, wrap64 (a0_3 + 1), ([] : List Int), 6)) else (if 6 = 6 then (some (true, t235, 6, wrap64 (a0_3 + 1), ([] : List Int), 6)) else (some (true, t235, 6, 0, t234, 6))))))) = some (r1, r2, r3, r4, r5, r6) := by rw [if_pos rfl] at H; exact H
          clear H
          have H := H1
          clear H1
          by_cases c15 : x14_6 = 0
          · rw [if_pos c15] at H
            have c15b0 : (x14_6 == 0) = true := beq_iff_eq.mpr c15
            have c15b1 : (x14_6 != 0) = false := bne_eq_false_iff_eq.mpr c15
            clear c15
            by_cases c16 : 3 = 3
            · rw [if_pos c16] at H
              have c16b0 : (3 == 3) = true := beq_iff_eq.mpr c16
              have c16b1 : (3 != 3) = false := bne_eq_false_iff_eq.mpr c16
              clear c16
              simp only [Option.some.injEq, Prod.mk.injEq] at H
              obtain ⟨rfl, rfl, rfl, rfl, rfl, rfl⟩ := H
              have hnb17 := NB232_233.out
              have hnc17 := NB233_232.out
              have hcz18_0 : wc.cell? ⟨gb232, 0, none⟩ = some (.bool true) := (blk_cell BK232.out 0).trans rfl
              have hcz18_1 : wc.cell? ⟨gb232, 1, none⟩ = some (.int .i64 a0_1) := (blk_cell BK232.out 1).trans rfl
              have hcz18_2 : wc.cell? ⟨gb232, 2, none⟩ = some (.int .i64 a0_2) := (blk_cell BK232.out 2).trans rfl
              have hcz18_3 : wc.cell? ⟨gb232, 3, none⟩ = some (.int .i64 a0_3) := (blk_cell BK232.out 3).trans rfl
              have hfz18_0 := blk_frozen BK232.out 0
              have hfz18_1 := blk_frozen BK232.out 1
              have hfz18_2 := blk_frozen BK232.out 2
              have hfz18_3 := blk_frozen BK232.out 3
              have hcz19_0 : wc.cell? ⟨gb233, 0, none⟩ = some (.bool false) := (blk_cell BK233.out 0).trans rfl
              have hcz19_1 : wc.cell? ⟨gb233, 1, none⟩ = some (.int .i64 0) := (blk_cell BK233.out 1).trans rfl
              have hcz19_2 : wc.cell? ⟨gb233, 2, none⟩ = some (.int .i64 0) := (blk_cell BK233.out 2).trans rfl
              have hcz19_3 : wc.cell? ⟨gb233, 3, none⟩ = some (.int .i64 0) := (blk_cell BK233.out 3).trans rfl
              have hfz19_0 := blk_frozen BK233.out 0
              have hfz19_1 := blk_frozen BK233.out 1
              have hfz19_2 := blk_frozen BK233.out 2
              have hfz19_3 := blk_frozen BK233.out 3
              go_wp2
              refine bodyPost_ret (results_ctt rfl _ _ gb233 24 #[.bool true, .int .i64 t235, .int .i64 3, .int .i64 (wrap64 (a0_3 + 1))] (0, 0) _ rfl (by (with_reducible repeat (first | refine blk_drewN ?_ _ | refine blk_drew ?_ | refine blk_alloc ?_ _)); refine blk_put (cs := #[.bool true, .int .i64 t235, .int .i64 3, .int .i64 0]) ?_ 3 _ rfl; (with_reducible repeat (first | refine blk_drewN ?_ _ | refine blk_drew ?_ | refine blk_alloc ?_ _)); refine blk_put (cs := #[.bool true, .int .i64 t235, .int .i64 0, .int .i64 0]) ?_ 2 _ rfl; (with_reducible repeat (first | refine blk_drewN ?_ _ | refine blk_drew ?_ | refine blk_alloc ?_ _)); refine blk_put (cs := #[.bool true, .int .i64 0, .int .i64 0, .int .i64 0]) ?_ 1 _ rfl; (with_reducible repeat (first | refine blk_drewN ?_ _ | refine blk_drew ?_ | refine blk_alloc ?_ _)); refine blk_put (cs := #[.bool false, .int .i64 0, .int .i64 0, .int .i64 0]) ?_ 0 _ rfl; (with_reducible repeat (first | refine blk_drewN ?_ _ | refine blk_drew ?_ | refine blk_alloc ?_ _)); refine blk_far ?_ NB233_232.out _; (with_reducible repeat (first | refine blk_drewN ?_ _ | refine blk_drew ?_ | refine blk_alloc ?_ _)); refine blk_far ?_ NB233_232.out _; (with_reducible repeat (first | refine blk_drewN ?_ _ | refine blk_drew ?_ | refine blk_alloc ?_ _)); refine blk_far ?_ NB233_232.out _; (with_reducible repeat (first | refine blk_drewN ?_ _ | refine blk_drew ?_ | refine blk_alloc ?_ _)); refine blk_far ?_ NB233_232.out _; (with_reducible repeat (first | refine blk_drewN ?_ _ | refine blk_drew ?_ | refine blk_alloc ?_ _)); exact BK233.out) Try.underlying24 rfl (by kernel_rfl)) rfl ?_
              exact ⟨_, by first | rfl | (simp [errW_none, errW_some] <;> rfl) | (simp [*, errW_none, errW_some] <;> rfl), by first | exact Kd.R_nil _ _ _ _ _ | exact Kd.N_nil _ _ _ _ _ | exact Kd.V_nil _ _ _ _ _ | exact Kd.Q_nil _ _ _ _ _ | exact Kd.S_nil _ _ _ _ _, by repeat (first | (with_reducible first | exact HB.out | apply below_alloc | apply pw_below_drewN | apply below_drew1 | refine below_set ?_ GE232.out | refine below_set ?_ GE233.out) | exact HB.out)⟩
            · exact absurd (by decide) c16
          · rw [if_neg c15] at H
            have c15b0 : (x14_6 == 0) = false := beq_eq_false_iff_ne.mpr c15
            have c15b1 : (x14_6 != 0) = true := bne_iff_ne.mpr c15
            by_cases c27 : x14_6 = 1
            · rw [if_pos c27] at H
              have c27b0 : (x14_6 == 1) = true := beq_iff_eq.mpr c27
              have c27b1 : (x14_6 != 1) = false := bne_eq_false_iff_eq.mpr c27
              clear c27
              by_cases c28 : 1 = 3
              · exact absurd c28 (by decide)
              · rw [if_neg c28] at H
                have c28b0 : (1 == 3) = false := beq_eq_false_iff_ne.mpr c28
                have c28b1 : (1 != 3) = true := bne_iff_ne.mpr c28
                by_cases c32 : 1 = 6
                · exact absurd c32 (by decide)
                · rw [if_neg c32] at H
                  have c32b0 : (1 == 6) = false := beq_eq_false_iff_ne.mpr c32
                  have c32b1 : (1 != 6) = true := bne_iff_ne.mpr c32
                  simp only [Option.some.injEq, Prod.mk.injEq] at H
                  obtain ⟨rfl, rfl, rfl, rfl, rfl, rfl⟩ := H
                  have hnb36 := NB232_233.out
                  have hnc36 := NB233_232.out
                  have hcz37_0 : wc.cell? ⟨gb232, 0, none⟩ = some (.bool true) := (blk_cell BK232.out 0).trans rfl
                  have hcz37_1 : wc.cell? ⟨gb232, 1, none⟩ = some (.int .i64 a0_1) := (blk_cell BK232.out 1).trans rfl
                  have hcz37_2 : wc.cell? ⟨gb232, 2, none⟩ = some (.int .i64 a0_2) := (blk_cell BK232.out 2).trans rfl
                  have hcz37_3 : wc.cell? ⟨gb232, 3, none⟩ = some (.int .i64 a0_3) := (blk_cell BK232.out 3).trans rfl
                  have hfz37_0 := blk_frozen BK232.out 0
                  have hfz37_1 := blk_frozen BK232.out 1
                  have hfz37_2 := blk_frozen BK232.out 2
                  have hfz37_3 := blk_frozen BK232.out 3
                  have hcz38_0 : wc.cell? ⟨gb233, 0, none⟩ = some (.bool false) := (blk_cell BK233.out 0).trans rfl
                  have hcz38_1 : wc.cell? ⟨gb233, 1, none⟩ = some (.int .i64 0) := (blk_cell BK233.out 1).trans rfl
                  have hcz38_2 : wc.cell? ⟨gb233, 2, none⟩ = some (.int .i64 0) := (blk_cell BK233.out 2).trans rfl
                  have hcz38_3 : wc.cell? ⟨gb233, 3, none⟩ = some (.int .i64 0) := (blk_cell BK233.out 3).trans rfl
                  have hfz38_0 := blk_frozen BK233.out 0
                  have hfz38_1 := blk_frozen BK233.out 1
                  have hfz38_2 := blk_frozen BK233.out 2
                  have hfz38_3 := blk_frozen BK233.out 3
                  go_wp2
                  refine bodyPost_ret (results_ctt rfl _ _ gb233 24 #[.bool true, .int .i64 t235, .int .i64 1, .int .i64 0] (0, 0) _ rfl (by (with_reducible repeat (first | refine blk_drewN ?_ _ | refine blk_drew ?_ | refine blk_alloc ?_ _)); refine blk_put (cs := #[.bool true, .int .i64 t235, .int .i64 1, .int .i64 0]) ?_ 3 _ rfl; (with_reducible repeat (first | refine blk_drewN ?_ _ | refine blk_drew ?_ | refine blk_alloc ?_ _)); refine blk_put (cs := #[.bool true, .int .i64 t235, .int .i64 0, .int .i64 0]) ?_ 2 _ rfl; (with_reducible repeat (first | refine blk_drewN ?_ _ | refine blk_drew ?_ | refine blk_alloc ?_ _)); refine blk_put (cs := #[.bool true, .int .i64 0, .int .i64 0, .int .i64 0]) ?_ 1 _ rfl; (with_reducible repeat (first | refine blk_drewN ?_ _ | refine blk_drew ?_ | refine blk_alloc ?_ _)); refine blk_put (cs := #[.bool false, .int .i64 0, .int .i64 0, .int .i64 0]) ?_ 0 _ rfl; (with_reducible repeat (first | refine blk_drewN ?_ _ | refine blk_drew ?_ | refine blk_alloc ?_ _)); refine blk_far ?_ NB233_232.out _; (with_reducible repeat (first | refine blk_drewN ?_ _ | refine blk_drew ?_ | refine blk_alloc ?_ _)); refine blk_far ?_ NB233_232.out _; (with_reducible repeat (first | refine blk_drewN ?_ _ | refine blk_drew ?_ | refine blk_alloc ?_ _)); refine blk_far ?_ NB233_232.out _; (with_reducible repeat (first | refine blk_drewN ?_ _ | refine blk_drew ?_ | refine blk_alloc ?_ _)); refine blk_far ?_ NB233_232.out _; (with_reducible repeat (first | refine blk_drewN ?_ _ | refine blk_drew ?_ | refine blk_alloc ?_ _)); exact BK233.out) Try.underlying24 rfl (by kernel_rfl)) rfl ?_
                  exact ⟨_, by first | rfl | (simp [errW_none, errW_some] <;> rfl) | (simp [*, errW_none, errW_some] <;> rfl), by (with_reducible repeat (first | apply Kd.R_alloc | apply Kd.R_drewN | apply Kd.R_drew)); exact Kd.R_mono (Kd.R_far (p := ⟨gb233, 3, none⟩) (Kd.R_far (p := ⟨gb233, 2, none⟩) (Kd.R_far (p := ⟨gb233, 1, none⟩) (Kd.R_far (p := ⟨gb233, 0, none⟩) (Kd.R_far (p := ⟨gb232, 3, none⟩) (Kd.R_far (p := ⟨gb232, 2, none⟩) (Kd.R_far (p := ⟨gb232, 1, none⟩) (Kd.R_far (p := ⟨gb232, 0, none⟩) (Kd.R_types (Kd.R_types HO_11.out BK232.out (by decide)) BK233.out (by decide)) (fun _ hk => hk.1.2) (.bool true)) (fun _ hk => hk.1.2) (.int .i64 t235)) (fun _ hk => hk.1.2) (.int .i64 1)) (fun _ hk => hk.1.2) (.int .i64 0)) (fun _ hk => hk.2) (.bool true)) (fun _ hk => hk.2) (.int .i64 t235)) (fun _ hk => hk.2) (.int .i64 1)) (fun _ hk => hk.2) (.int .i64 0)) (fun _ hk => trivial), by repeat (first | (with_reducible first | exact HB.out | apply below_alloc | apply pw_below_drewN | apply below_drew1 | refine below_set ?_ GE232.out | refine below_set ?_ GE233.out) | exact HB.out)⟩
            · rw [if_neg c27] at H
              have c27b0 : (x14_6 == 1) = false := beq_eq_false_iff_ne.mpr c27
              have c27b1 : (x14_6 != 1) = true := bne_iff_ne.mpr c27
              by_cases c39 : x14_6 ≤ a3
              · rw [if_pos c39] at H
                have c39b0 : decide (x14_6 ≤ a3) = true := decide_eq_true c39
                clear c39
                by_cases c40 : 4 = 3
                · exact absurd c40 (by decide)
                · rw [if_neg c40] at H
                  have c40b0 : (4 == 3) = false := beq_eq_false_iff_ne.mpr c40
                  have c40b1 : (4 != 3) = true := bne_iff_ne.mpr c40
                  by_cases c44 : 4 = 6
                  · exact absurd c44 (by decide)
                  · rw [if_neg c44] at H
                    have c44b0 : (4 == 6) = false := beq_eq_false_iff_ne.mpr c44
                    have c44b1 : (4 != 6) = true := bne_iff_ne.mpr c44
                    simp only [Option.some.injEq, Prod.mk.injEq] at H
                    obtain ⟨rfl, rfl, rfl, rfl, rfl, rfl⟩ := H
                    have hnb48 := NB232_233.out
                    have hnc48 := NB233_232.out
                    have hcz49_0 : wc.cell? ⟨gb232, 0, none⟩ = some (.bool true) := (blk_cell BK232.out 0).trans rfl
                    have hcz49_1 : wc.cell? ⟨gb232, 1, none⟩ = some (.int .i64 a0_1) := (blk_cell BK232.out 1).trans rfl
                    have hcz49_2 : wc.cell? ⟨gb232, 2, none⟩ = some (.int .i64 a0_2) := (blk_cell BK232.out 2).trans rfl
                    have hcz49_3 : wc.cell? ⟨gb232, 3, none⟩ = some (.int .i64 a0_3) := (blk_cell BK232.out 3).trans rfl
                    have hfz49_0 := blk_frozen BK232.out 0
                    have hfz49_1 := blk_frozen BK232.out 1
                    have hfz49_2 := blk_frozen BK232.out 2
                    have hfz49_3 := blk_frozen BK232.out 3
                    have hcz50_0 : wc.cell? ⟨gb233, 0, none⟩ = some (.bool false) := (blk_cell BK233.out 0).trans rfl
                    have hcz50_1 : wc.cell? ⟨gb233, 1, none⟩ = some (.int .i64 0) := (blk_cell BK233.out 1).trans rfl
                    have hcz50_2 : wc.cell? ⟨gb233, 2, none⟩ = some (.int .i64 0) := (blk_cell BK233.out 2).trans rfl
                    have hcz50_3 : wc.cell? ⟨gb233, 3, none⟩ = some (.int .i64 0) := (blk_cell BK233.out 3).trans rfl
                    have hfz50_0 := blk_frozen BK233.out 0
                    have hfz50_1 := blk_frozen BK233.out 1
                    have hfz50_2 := blk_frozen BK233.out 2
                    have hfz50_3 := blk_frozen BK233.out 3
                    go_wp2
                    refine bodyPost_ret (results_ctt rfl _ _ gb233 24 #[.bool true, .int .i64 t235, .int .i64 4, .int .i64 0] (0, 0) _ rfl (by (with_reducible repeat (first | refine blk_drewN ?_ _ | refine blk_drew ?_ | refine blk_alloc ?_ _)); refine blk_put (cs := #[.bool true, .int .i64 t235, .int .i64 4, .int .i64 0]) ?_ 3 _ rfl; (with_reducible repeat (first | refine blk_drewN ?_ _ | refine blk_drew ?_ | refine blk_alloc ?_ _)); refine blk_put (cs := #[.bool true, .int .i64 t235, .int .i64 0, .int .i64 0]) ?_ 2 _ rfl; (with_reducible repeat (first | refine blk_drewN ?_ _ | refine blk_drew ?_ | refine blk_alloc ?_ _)); refine blk_put (cs := #[.bool true, .int .i64 0, .int .i64 0, .int .i64 0]) ?_ 1 _ rfl; (with_reducible repeat (first | refine blk_drewN ?_ _ | refine blk_drew ?_ | refine blk_alloc ?_ _)); refine blk_put (cs := #[.bool false, .int .i64 0, .int .i64 0, .int .i64 0]) ?_ 0 _ rfl; (with_reducible repeat (first | refine blk_drewN ?_ _ | refine blk_drew ?_ | refine blk_alloc ?_ _)); refine blk_far ?_ NB233_232.out _; (with_reducible repeat (first | refine blk_drewN ?_ _ | refine blk_drew ?_ | refine blk_alloc ?_ _)); refine blk_far ?_ NB233_232.out _; (with_reducible repeat (first | refine blk_drewN ?_ _ | refine blk_drew ?_ | refine blk_alloc ?_ _)); refine blk_far ?_ NB233_232.out _; (with_reducible repeat (first | refine blk_drewN ?_ _ | refine blk_drew ?_ | refine blk_alloc ?_ _)); refine blk_far ?_ NB233_232.out _; (with_reducible repeat (first | refine blk_drewN ?_ _ | refine blk_drew ?_ | refine blk_alloc ?_ _)); exact BK233.out) Try.underlying24 rfl (by kernel_rfl)) rfl ?_
                    exact ⟨_, by first | rfl | (simp [errW_none, errW_some] <;> rfl) | (simp [*, errW_none, errW_some] <;> rfl), by (with_reducible repeat (first | apply Kd.R_alloc | apply Kd.R_drewN | apply Kd.R_drew)); exact Kd.R_mono (Kd.R_far (p := ⟨gb233, 3, none⟩) (Kd.R_far (p := ⟨gb233, 2, none⟩) (Kd.R_far (p := ⟨gb233, 1, none⟩) (Kd.R_far (p := ⟨gb233, 0, none⟩) (Kd.R_far (p := ⟨gb232, 3, none⟩) (Kd.R_far (p := ⟨gb232, 2, none⟩) (Kd.R_far (p := ⟨gb232, 1, none⟩) (Kd.R_far (p := ⟨gb232, 0, none⟩) (Kd.R_types (Kd.R_types HO_11.out BK232.out (by decide)) BK233.out (by decide)) (fun _ hk => hk.1.2) (.bool true)) (fun _ hk => hk.1.2) (.int .i64 t235)) (fun _ hk => hk.1.2) (.int .i64 4)) (fun _ hk => hk.1.2) (.int .i64 0)) (fun _ hk => hk.2) (.bool true)) (fun _ hk => hk.2) (.int .i64 t235)) (fun _ hk => hk.2) (.int .i64 4)) (fun _ hk => hk.2) (.int .i64 0)) (fun _ hk => trivial), by repeat (first | (with_reducible first | exact HB.out | apply below_alloc | apply pw_below_drewN | apply below_drew1 | refine below_set ?_ GE232.out | refine below_set ?_ GE233.out) | exact HB.out)⟩
              · rw [if_neg c39] at H
                have c39b0 : decide (x14_6 ≤ a3) = false := decide_eq_false c39
                clear c39
                by_cases c51 : 6 = 3
                · exact absurd c51 (by decide)
                · rw [if_neg c51] at H
                  have c51b0 : (6 == 3) = false := beq_eq_false_iff_ne.mpr c51
                  have c51b1 : (6 != 3) = true := bne_iff_ne.mpr c51
                  by_cases c55 : 6 = 6
                  · rw [if_pos c55] at H
                    have c55b0 : (6 == 6) = true := beq_iff_eq.mpr c55
                    have c55b1 : (6 != 6) = false := bne_eq_false_iff_eq.mpr c55
                    clear c55
                    simp only [Option.some.injEq, Prod.mk.injEq] at H
                    obtain ⟨rfl, rfl, rfl, rfl, rfl, rfl⟩ := H
                    have hnb56 := NB232_233.out
                    have hnc56 := NB233_232.out
                    have hcz57_0 : wc.cell? ⟨gb232, 0, none⟩ = some (.bool true) := (blk_cell BK232.out 0).trans rfl
                    have hcz57_1 : wc.cell? ⟨gb232, 1, none⟩ = some (.int .i64 a0_1) := (blk_cell BK232.out 1).trans rfl
                    have hcz57_2 : wc.cell? ⟨gb232, 2, none⟩ = some (.int .i64 a0_2) := (blk_cell BK232.out 2).trans rfl
                    have hcz57_3 : wc.cell? ⟨gb232, 3, none⟩ = some (.int .i64 a0_3) := (blk_cell BK232.out 3).trans rfl
                    have hfz57_0 := blk_frozen BK232.out 0
                    have hfz57_1 := blk_frozen BK232.out 1
                    have hfz57_2 := blk_frozen BK232.out 2
                    have hfz57_3 := blk_frozen BK232.out 3
                    have hcz58_0 : wc.cell? ⟨gb233, 0, none⟩ = some (.bool false) := (blk_cell BK233.out 0).trans rfl
                    have hcz58_1 : wc.cell? ⟨gb233, 1, none⟩ = some (.int .i64 0) := (blk_cell BK233.out 1).trans rfl
                    have hcz58_2 : wc.cell? ⟨gb233, 2, none⟩ = some (.int .i64 0) := (blk_cell BK233.out 2).trans rfl
                    have hcz58_3 : wc.cell? ⟨gb233, 3, none⟩ = some (.int .i64 0) := (blk_cell BK233.out 3).trans rfl
                    have hfz58_0 := blk_frozen BK233.out 0
                    have hfz58_1 := blk_frozen BK233.out 1
                    have hfz58_2 := blk_frozen BK233.out 2
                    have hfz58_3 := blk_frozen BK233.out 3
                    go_wp2
                    refine bodyPost_ret (results_ctt rfl _ _ gb233 24 #[.bool true, .int .i64 t235, .int .i64 6, .int .i64 (wrap64 (a0_3 + 1))] (0, 0) _ rfl (by (with_reducible repeat (first | refine blk_drewN ?_ _ | refine blk_drew ?_ | refine blk_alloc ?_ _)); refine blk_put (cs := #[.bool true, .int .i64 t235, .int .i64 6, .int .i64 0]) ?_ 3 _ rfl; (with_reducible repeat (first | refine blk_drewN ?_ _ | refine blk_drew ?_ | refine blk_alloc ?_ _)); refine blk_put (cs := #[.bool true, .int .i64 t235, .int .i64 0, .int .i64 0]) ?_ 2 _ rfl; (with_reducible repeat (first | refine blk_drewN ?_ _ | refine blk_drew ?_ | refine blk_alloc ?_ _)); refine blk_put (cs := #[.bool true, .int .i64 0, .int .i64 0, .int .i64 0]) ?_ 1 _ rfl; (with_reducible repeat (first | refine blk_drewN ?_ _ | refine blk_drew ?_ | refine blk_alloc ?_ _)); refine blk_put (cs := #[.bool false, .int .i64 0, .int .i64 0, .int .i64 0]) ?_ 0 _ rfl; (with_reducible repeat (first | refine blk_drewN ?_ _ | refine blk_drew ?_ | refine blk_alloc ?_ _)); refine blk_far ?_ NB233_232.out _; (with_reducible repeat (first | refine blk_drewN ?_ _ | refine blk_drew ?_ | refine blk_alloc ?_ _)); refine blk_far ?_ NB233_232.out _; (with_reducible repeat (first | refine blk_drewN ?_ _ | refine blk_drew ?_ | refine blk_alloc ?_ _)); refine blk_far ?_ NB233_232.out _; (with_reducible repeat (first | refine blk_drewN ?_ _ | refine blk_drew ?_ | refine blk_alloc ?_ _)); refine blk_far ?_ NB233_232.out _; (with_reducible repeat (first | refine blk_drewN ?_ _ | refine blk_drew ?_ | refine blk_alloc ?_ _)); exact BK233.out) Try.underlying24 rfl (by kernel_rfl)) rfl ?_
                    exact ⟨_, by first | rfl | (simp [errW_none, errW_some] <;> rfl) | (simp [*, errW_none, errW_some] <;> rfl), by first | exact Kd.R_nil _ _ _ _ _ | exact Kd.N_nil _ _ _ _ _ | exact Kd.V_nil _ _ _ _ _ | exact Kd.Q_nil _ _ _ _ _ | exact Kd.S_nil _ _ _ _ _, by repeat (first | (with_reducible first | exact HB.out | apply below_alloc | apply pw_below_drewN | apply below_drew1 | refine below_set ?_ GE232.out | refine below_set ?_ GE233.out) | exact HB.out)⟩
                  · exact absurd (by decide) c55
        · replace c14 := Bool.eq_false_iff.mpr c14
          subst c14
          have H1 : (if 2 = 3 then (some (true, t235, 2, wrap64 (a0_3 + 1), ([] : List Int), 2)) else (if 2 = 6 then (some (true, t235, 2, wrap64 (a0_3 + 1), ([] : List Int), 2)) else (some (true, t235, 2, 0, t234, 2)))) = some (r1, r2, r3, r4, r5, r6) := by rw [if_neg (show ¬ (false = true) by decide)] at H; exact H
          clear H
          have H := H1
          clear H1
          by_cases c62 : 2 = 3
          · exact absurd c62 (by decide)
          · rw [if_neg c62] at H
            have c62b0 : (2 == 3) = false := beq_eq_false_iff_ne.mpr c62
            have c62b1 : (2 != 3) = true := bne_iff_ne.mpr c62
            by_cases c66 : 2 = 6
            · exact absurd c66 (by decide)
            · rw [if_neg c66] at H
              have c66b0 : (2 == 6) = false := beq_eq_false_iff_ne.mpr c66
              have c66b1 : (2 != 6) = true := bne_iff_ne.mpr c66
              simp only [Option.some.injEq, Prod.mk.injEq] at H
              obtain ⟨rfl, rfl, rfl, rfl, rfl, rfl⟩ := H
              have hnb70 := NB232_233.out
              have hnc70 := NB233_232.out
              have hcz71_0 : wc.cell? ⟨gb232, 0, none⟩ = some (.bool false) := (blk_cell BK232.out 0).trans rfl
              have hcz71_1 : wc.cell? ⟨gb232, 1, none⟩ = some (.int .i64 a0_1) := (blk_cell BK232.out 1).trans rfl
              have hcz71_2 : wc.cell? ⟨gb232, 2, none⟩ = some (.int .i64 a0_2) := (blk_cell BK232.out 2).trans rfl
              have hcz71_3 : wc.cell? ⟨gb232, 3, none⟩ = some (.int .i64 a0_3) := (blk_cell BK232.out 3).trans rfl
              have hfz71_0 := blk_frozen BK232.out 0
              have hfz71_1 := blk_frozen BK232.out 1
              have hfz71_2 := blk_frozen BK232.out 2
              have hfz71_3 := blk_frozen BK232.out 3
              have hcz72_0 : wc.cell? ⟨gb233, 0, none⟩ = some (.bool false) := (blk_cell BK233.out 0).trans rfl
              have hcz72_1 : wc.cell? ⟨gb233, 1, none⟩ = some (.int .i64 0) := (blk_cell BK233.out 1).trans rfl
              have hcz72_2 : wc.cell? ⟨gb233, 2, none⟩ = some (.int .i64 0) := (blk_cell BK233.out 2).trans rfl
              have hcz72_3 : wc.cell? ⟨gb233, 3, none⟩ = some (.int .i64 0) := (blk_cell BK233.out 3).trans rfl
              have hfz72_0 := blk_frozen BK233.out 0
              have hfz72_1 := blk_frozen BK233.out 1
              have hfz72_2 := blk_frozen BK233.out 2
              have hfz72_3 := blk_frozen BK233.out 3
              go_wp2
              refine bodyPost_ret (results_ctt rfl _ _ gb233 24 #[.bool true, .int .i64 t235, .int .i64 2, .int .i64 0] (0, 0) _ rfl (by (with_reducible repeat (first | refine blk_drewN ?_ _ | refine blk_drew ?_ | refine blk_alloc ?_ _)); refine blk_put (cs := #[.bool true, .int .i64 t235, .int .i64 2, .int .i64 0]) ?_ 3 _ rfl; (with_reducible repeat (first | refine blk_drewN ?_ _ | refine blk_drew ?_ | refine blk_alloc ?_ _)); refine blk_put (cs := #[.bool true, .int .i64 t235, .int .i64 0, .int .i64 0]) ?_ 2 _ rfl; (with_reducible repeat (first | refine blk_drewN ?_ _ | refine blk_drew ?_ | refine blk_alloc ?_ _)); refine blk_put (cs := #[.bool true, .int .i64 0, .int .i64 0, .int .i64 0]) ?_ 1 _ rfl; (with_reducible repeat (first | refine blk_drewN ?_ _ | refine blk_drew ?_ | refine blk_alloc ?_ _)); refine blk_put (cs := #[.bool false, .int .i64 0, .int .i64 0, .int .i64 0]) ?_ 0 _ rfl; (with_reducible repeat (first | refine blk_drewN ?_ _ | refine blk_drew ?_ | refine blk_alloc ?_ _)); refine blk_far ?_ NB233_232.out _; (with_reducible repeat (first | refine blk_drewN ?_ _ | refine blk_drew ?_ | refine blk_alloc ?_ _)); refine blk_far ?_ NB233_232.out _; (with_reducible repeat (first | refine blk_drewN ?_ _ | refine blk_drew ?_ | refine blk_alloc ?_ _)); refine blk_far ?_ NB233_232.out _; (with_reducible repeat (first | refine blk_drewN ?_ _ | refine blk_drew ?_ | refine blk_alloc ?_ _)); refine blk_far ?_ NB233_232.out _; (with_reducible repeat (first | refine blk_drewN ?_ _ | refine blk_drew ?_ | refine blk_alloc ?_ _)); exact BK233.out) Try.underlying24 rfl (by kernel_rfl)) rfl ?_
              exact ⟨_, by first | rfl | (simp [errW_none, errW_some] <;> rfl) | (simp [*, errW_none, errW_some] <;> rfl), by (with_reducible repeat (first | apply Kd.R_alloc | apply Kd.R_drewN | apply Kd.R_drew)); exact Kd.R_mono (Kd.R_far (p := ⟨gb233, 3, none⟩) (Kd.R_far (p := ⟨gb233, 2, none⟩) (Kd.R_far (p := ⟨gb233, 1, none⟩) (Kd.R_far (p := ⟨gb233, 0, none⟩) (Kd.R_far (p := ⟨gb232, 3, none⟩) (Kd.R_far (p := ⟨gb232, 2, none⟩) (Kd.R_far (p := ⟨gb232, 1, none⟩) (Kd.R_far (p := ⟨gb232, 0, none⟩) (Kd.R_types (Kd.R_types HO_11.out BK232.out (by decide)) BK233.out (by decide)) (fun _ hk => hk.1.2) (.bool true)) (fun _ hk => hk.1.2) (.int .i64 t235)) (fun _ hk => hk.1.2) (.int .i64 2)) (fun _ hk => hk.1.2) (.int .i64 0)) (fun _ hk => hk.2) (.bool true)) (fun _ hk => hk.2) (.int .i64 t235)) (fun _ hk => hk.2) (.int .i64 2)) (fun _ hk => hk.2) (.int .i64 0)) (fun _ hk => trivial), by repeat (first | (with_reducible first | exact HB.out | apply below_alloc | apply pw_below_drewN | apply below_drew1 | refine below_set ?_ GE232.out | refine below_set ?_ GE233.out) | exact HB.out)⟩
  · replace c6 := Bool.eq_false_iff.mpr c6
    subst c6
    have H1 : (some (a0_0, a0_1, 5, wrap64 (a0_3 + 1), ([] : List Int), 5)) = some (r1, r2, r3, r4, r5, r6) := by rw [if_neg (show ¬ (false = true) by decide)] at H; exact H
    clear H
    have H := H1
    clear H1
    simp only [Option.some.injEq, Prod.mk.injEq] at H
    obtain ⟨rfl, rfl, rfl, rfl, rfl, rfl⟩ := H
    go_enter Try.func20, Try.ntmps20
    go_wp2_with (first | ((with_reducible refine gate_store (t := 24) (p := 8) rfl ?_); refine HW.store_box rfl rfl 24 _ _ rfl rfl rfl BK233.out rfl (by kernel_rfl) (by intro q hq; simp only [List.mem_cons, List.not_mem_nil, or_false] at hq; rcases hq with rfl | rfl | rfl | rfl <;> rfl) ?_; intro w1_ hw1_; simp only [List.toList_toArray, World.setCells, Nat.zero_add, Nat.reduceAdd] at hw1_; subst hw1_) | ((with_reducible refine gate_store (t := 24) (p := 4) rfl ?_); refine HW.store_box rfl rfl 24 _ _ rfl rfl rfl BK232.out rfl (by kernel_rfl) (by intro q hq; simp only [List.mem_cons, List.not_mem_nil, or_false] at hq; rcases hq with rfl | rfl | rfl | rfl <;> rfl) ?_; intro w1_ hw1_; simp only [List.toList_toArray, World.setCells, Nat.zero_add, Nat.reduceAdd] at hw1_; subst hw1_) | ((with_reducible refine gate_dst (N := 4) rfl ?_); refine box_event ?hg (N := 4) ?hd (cs := #[.bool a0_0, .int .i64 a0_1, .int .i64 a0_2, .int .i64 a0_3]) (t := 24) ?hr ?_; (case hd => rfl); (case hg => rfl); (case hr => first | (go_simp; done) | (go_simp; rfl)); intro gb232 hg w73 hbox hb; have n0_ := Aside0.mk (below_step (by repeat (first | (with_reducible first | exact HB.out | apply below_alloc | apply pw_below_drewN | apply below_drew1) | exact HB.out)) hb); have n1_ := Aside0.mk (hbox); have n2_ := Aside0.mk ((by rw [hg]; exact (below_size (by repeat (first | (with_reducible first | exact HB.out | apply below_alloc | apply pw_below_drewN | apply below_drew1) | exact HB.out))) : w.heap.size ≤ gb232)); have n3_ := Aside0.mk ((by rw [hg]; exact (below_size (by repeat (first | (with_reducible first | exact HB.out | apply below_alloc | apply pw_below_drewN | apply below_drew1) | exact HB.out))) : w.heap.size ≤ gb232)); clear HB; have HB := n0_; have BK232 := n1_; have GW232 := n2_; have GE232 := n3_; clear n0_ n1_ n2_ n3_; clear hb hbox hg) | ((with_reducible refine gate_dst (N := 8) rfl ?_); refine box_event ?hg (N := 8) ?hd (cs := #[.bool false, .int .i64 0, .int .i64 0, .int .i64 0]) (t := 24) ?hr ?_; (case hd => rfl); (case hg => rfl); (case hr => first | (go_simp; done) | (go_simp; rfl)); intro gb233 hg w74 hbox hb; have n0_ := Aside0.mk (blk_below (g := gb232) (o := .cells #[.bool a0_0, .int .i64 a0_1, .int .i64 a0_2, .int .i64 a0_3] 24 (0, 0)) (by (with_reducible repeat (first | refine blk_drewN ?_ _ | refine blk_drew ?_ | refine blk_alloc ?_ _)); exact BK232.out) hb); have n1_ := Aside0.mk (below_step (by repeat (first | (with_reducible first | exact HB.out | apply below_alloc | apply pw_below_drewN | apply below_drew1 | refine below_set ?_ GE232.out) | exact HB.out)) hb); have n2_ := Aside0.mk (hbox); have n3_ := Aside0.mk ((by rw [hg]; exact (below_size (by repeat (first | (with_reducible first | exact HB.out | apply below_alloc | apply pw_below_drewN | apply below_drew1 | refine below_set ?_ GE232.out) | exact HB.out))) : w.heap.size ≤ gb233)); have n4_ := Aside0.mk ((by rw [hg]; exact (below_size (by repeat (first | (with_reducible first | exact HB.out | apply below_alloc | apply pw_below_drewN | apply below_drew1 | refine below_set ?_ GE232.out) | exact HB.out))) : w.heap.size ≤ gb233)); have n5_ := Aside0.mk ((by rw [hg]; exact Nat.ne_of_lt (blk_lt (g := gb232) (o := .cells #[.bool a0_0, .int .i64 a0_1, .int .i64 a0_2, .int .i64 a0_3] 24 (0, 0)) (by (with_reducible repeat (first | refine blk_drewN ?_ _ | refine blk_drew ?_ | refine blk_alloc ?_ _)); exact BK232.out)) : gb232 ≠ gb233)); have n6_ := Aside0.mk ((by rw [hg]; exact Nat.ne_of_gt (blk_lt (g := gb232) (o := .cells #[.bool a0_0, .int .i64 a0_1, .int .i64 a0_2, .int .i64 a0_3] 24 (0, 0)) (by (with_reducible repeat (first | refine blk_drewN ?_ _ | refine blk_drew ?_ | refine blk_alloc ?_ _)); exact BK232.out)) : gb233 ≠ gb232)); clear BK232; clear HB; have BK232 := n0_; have HB := n1_; have BK233 := n2_; have GW233 := n3_; have GE233 := n4_; have NB232_233 := n5_; have NB233_232 := n6_; clear n0_ n1_ n2_ n3_ n4_ n5_ n6_; clear hb hbox hg) | ((with_reducible refine gate_callee (f := 14) rfl ?_); refine goesL_ (some 19) rfl rfl Try.func14 (by kernel_rfl) rfl #[.int .i64 a1, .slice A2 l2.length c2] rfl (by (try simp only [List.map_toArray, List.map_cons, List.map_nil]); first | done | rfl | (simp only [List.length_drop, List.length_take]; rfl)) ?_; (with_reducible refine (phaetonref16_Open.calls k a1 _ _ l2 t234 t235 false _ ?side1 ?side2 A5.out).mono ?_); (case side1 => repeat (first | exact (Kd.C_below HR2.out HB.out) | (with_reducible refine Kd.C_alloc ?_ _) | (with_reducible refine Kd.C_drewN ?_ _) | (with_reducible refine Kd.C_drew ?_))); (case side2 => exact HC2.out); rintro e w75 ⟨v237, rfl, ho0, hb⟩; refine ⟨_, rfl, ?_⟩; have n0_ := Aside0.mk (Kd.R_lower ho0 (below_size (by repeat (first | (with_reducible first | exact HB.out | apply below_alloc | apply pw_below_drewN | apply below_drew1 | refine below_set ?_ GE232.out | refine below_set ?_ GE233.out) | exact HB.out)))); have n1_ := Aside0.mk (blk_below (g := gb232) (o := .cells #[.bool a0_0, .int .i64 a0_1, .int .i64 a0_2, .int .i64 a0_3] 24 (0, 0)) (by (with_reducible repeat (first | refine blk_drewN ?_ _ | refine blk_drew ?_ | refine blk_alloc ?_ _)); exact BK232.out) hb); have n2_ := Aside0.mk (blk_below (g := gb233) (o := .cells #[.bool false, .int .i64 0, .int .i64 0, .int .i64 0] 24 (0, 0)) (by (with_reducible repeat (first | refine blk_drewN ?_ _ | refine blk_drew ?_ | refine blk_alloc ?_ _)); exact BK233.out) hb); have n3_ := Aside0.mk (below_step (by repeat (first | (with_reducible first | exact HB.out | apply below_alloc | apply pw_below_drewN | apply below_drew1 | refine below_set ?_ GE232.out | refine below_set ?_ GE233.out) | exact HB.out)) hb); clear BK232; clear BK233; clear HB; have HO238 := n0_; have BK232 := n1_; have BK233 := n2_; have HB := n3_; clear n0_ n1_ n2_ n3_; (try clear hb); (try clear hb2); (try clear hk); (try clear hi); (try clear ho0); have hnb76 := NB232_233.out; have hnc76 := NB233_232.out; have hcz77_0 : w75.cell? ⟨gb232, 0, none⟩ = some (.bool a0_0) := (blk_cell BK232.out 0).trans rfl; have hcz77_1 : w75.cell? ⟨gb232, 1, none⟩ = some (.int .i64 a0_1) := (blk_cell BK232.out 1).trans rfl; have hcz77_2 : w75.cell? ⟨gb232, 2, none⟩ = some (.int .i64 a0_2) := (blk_cell BK232.out 2).trans rfl; have hcz77_3 : w75.cell? ⟨gb232, 3, none⟩ = some (.int .i64 a0_3) := (blk_cell BK232.out 3).trans rfl; have hfz77_0 := blk_frozen BK232.out 0; have hfz77_1 := blk_frozen BK232.out 1; have hfz77_2 := blk_frozen BK232.out 2; have hfz77_3 := blk_frozen BK232.out 3; have hcz78_0 : w75.cell? ⟨gb233, 0, none⟩ = some (.bool false) := (blk_cell BK233.out 0).trans rfl; have hcz78_1 : w75.cell? ⟨gb233, 1, none⟩ = some (.int .i64 0) := (blk_cell BK233.out 1).trans rfl; have hcz78_2 : w75.cell? ⟨gb233, 2, none⟩ = some (.int .i64 0) := (blk_cell BK233.out 2).trans rfl; have hcz78_3 : w75.cell? ⟨gb233, 3, none⟩ = some (.int .i64 0) := (blk_cell BK233.out 3).trans rfl; have hfz78_0 := blk_frozen BK233.out 0; have hfz78_1 := blk_frozen BK233.out 1; have hfz78_2 := blk_frozen BK233.out 2; have hfz78_3 := blk_frozen BK233.out 3))
    refine bodyPost_ret (results_ctt rfl _ _ gb233 24 #[.bool a0_0, .int .i64 a0_1, .int .i64 5, .int .i64 (wrap64 (a0_3 + 1))] (0, 0) _ rfl (by (with_reducible repeat (first | refine blk_drewN ?_ _ | refine blk_drew ?_ | refine blk_alloc ?_ _)); refine blk_put (cs := #[.bool a0_0, .int .i64 a0_1, .int .i64 5, .int .i64 0]) ?_ 3 _ rfl; (with_reducible repeat (first | refine blk_drewN ?_ _ | refine blk_drew ?_ | refine blk_alloc ?_ _)); refine blk_put (cs := #[.bool a0_0, .int .i64 a0_1, .int .i64 0, .int .i64 0]) ?_ 2 _ rfl; (with_reducible repeat (first | refine blk_drewN ?_ _ | refine blk_drew ?_ | refine blk_alloc ?_ _)); refine blk_put (cs := #[.bool a0_0, .int .i64 0, .int .i64 0, .int .i64 0]) ?_ 1 _ rfl; (with_reducible repeat (first | refine blk_drewN ?_ _ | refine blk_drew ?_ | refine blk_alloc ?_ _)); refine blk_put (cs := #[.bool false, .int .i64 0, .int .i64 0, .int .i64 0]) ?_ 0 _ rfl; (with_reducible repeat (first | refine blk_drewN ?_ _ | refine blk_drew ?_ | refine blk_alloc ?_ _)); refine blk_far ?_ NB233_232.out _; (with_reducible repeat (first | refine blk_drewN ?_ _ | refine blk_drew ?_ | refine blk_alloc ?_ _)); refine blk_far ?_ NB233_232.out _; (with_reducible repeat (first | refine blk_drewN ?_ _ | refine blk_drew ?_ | refine blk_alloc ?_ _)); exact BK233.out) Try.underlying24 rfl (by kernel_rfl)) rfl ?_
    exact ⟨_, by first | rfl | (simp [errW_none, errW_some] <;> rfl) | (simp [*, errW_none, errW_some] <;> rfl), by first | exact Kd.R_nil _ _ _ _ _ | exact Kd.N_nil _ _ _ _ _ | exact Kd.V_nil _ _ _ _ _ | exact Kd.Q_nil _ _ _ _ _ | exact Kd.S_nil _ _ _ _ _, by repeat (first | (with_reducible first | exact HB.out | apply below_alloc | apply pw_below_drewN | apply below_drew1 | refine below_set ?_ GE232.out | refine below_set ?_ GE233.out) | exact HB.out)⟩

/-! ### phaetonlaw16_TrustTells: function 3 -/
def phaetonlaw16_TrustTells.j0 : Nat → Int → List Int → Int → Bool → Bool → Bool → Int → Int → Int → Option (Bool)
  | 0, _, _, _, _, _, _, _, _, _ => none
  | k + 1, x0, x2, x4, x11, x91, x240000, x240001, x240002, x240003 => if x91 = true then (none) else ((phaetonref16_Right.f x240000 x240001 x240002 x240003).bind fun t269 => (if t269 = true then ((trust_Check.f x240000 x240001 x240002 x240003 x0 x2 (wrap64 ((Int.tmod (wrap64 (x4)) 14) + 1))).bind fun bt270 => ((phaetonref16_Check.f k x240000 x240001 x240002 x240003 x0 x2 (wrap64 ((Int.tmod (wrap64 (x4)) 14) + 1))).bind fun bt279 => (if x11 = true then (if (bt270.1 == bt279.1 && (bt270.2.1 == bt279.2.1 && (bt270.2.2.1 == bt279.2.2.1 && (bt270.2.2.2.1 == bt279.2.2.2.1)))) = true then ((phaetonref01_SameBytes.f bt270.2.2.2.2.1 bt279.2.2.2.2.1).bind fun t288 => (if t288 = true then (if bt270.2.2.2.2.2 = bt279.2.2.2.2.2 then (some true) else (none)) else (none))) else (none)) else (none)))) else (if x11 = true then (some true) else (none))))
def phaetonlaw16_TrustTells.f (k : Nat) (a0 : Int) (a1 : Int) (l2 : List Int) (a3_0 : Bool) (a3_1 : Int) (a3_2 : Int) (a3_3 : Int) (a4 : Int) : Option (Bool) := (phaetonlaw16_head.f k).bind fun t240 => (if (l2.length : Int) > 100 then (if t240 = true then (some true) else (none)) else ((trust_Wrap.f a0 a1 l2).bind fun bt241 => ((phaetonref16_Wrap.f k a0 a1 l2).bind fun bt245 => ((trust_Open.f a0 l2).bind fun bt249 => ((phaetonref16_Open.f k a0 l2).bind fun bt254 => ((phaetonref01_SameBytes.f bt241.1 bt245.1).bind fun t259 => (if t259 = true then (if (bt241.2 != bt245.2) = true then (phaetonlaw16_TrustTells.j0 k a0 l2 a4 t240 true a3_0 a3_1 a3_2 a3_3) else ((phaetonref01_SameBytes.f bt249.1 bt254.1).bind fun t260 => (if t260 = true then (if bt249.2.1 = bt254.2.1 then (if (bt249.2.2 != bt254.2.2) = true then (phaetonlaw16_TrustTells.j0 k a0 l2 a4 t240 true a3_0 a3_1 a3_2 a3_3) else ((trust_New.f).bind fun bt261 => ((phaetonref16_New.f).bind fun bt265 => (phaetonlaw16_TrustTells.j0 k a0 l2 a4 t240 (!(bt261.1 == bt265.1) || (!(bt261.2.1 == bt265.2.1) || (!(bt261.2.2.1 == bt265.2.2.1) || (!(bt261.2.2.2 == bt265.2.2.2))))) a3_0 a3_1 a3_2 a3_3)))) else (phaetonlaw16_TrustTells.j0 k a0 l2 a4 t240 true a3_0 a3_1 a3_2 a3_3)) else (phaetonlaw16_TrustTells.j0 k a0 l2 a4 t240 true a3_0 a3_1 a3_2 a3_3)))) else (phaetonlaw16_TrustTells.j0 k a0 l2 a4 t240 true a3_0 a3_1 a3_2 a3_3))))))))
theorem phaetonlaw16_TrustTells.mono_l : ∀ k, (∀ y0 y1 y2 y3 y4 y5 y6 y7 y8, LeO (phaetonlaw16_TrustTells.j0 k y0 y1 y2 y3 y4 y5 y6 y7 y8) (phaetonlaw16_TrustTells.j0 (k + 1) y0 y1 y2 y3 y4 y5 y6 y7 y8))
  | 0 => fun _ _ _ _ _ _ _ _ _ r h => by simp [phaetonlaw16_TrustTells.j0] at h
  | k + 1 => by
    have ih0 := phaetonlaw16_TrustTells.mono_l k
    · intro y0 y1 y2 y3 y4 y5 y6 y7 y8
      unfold phaetonlaw16_TrustTells.j0
      repeat' first
      | (with_reducible exact ih0 _ _ _ _ _ _ _ _ _)
      | (with_reducible exact phaetonlaw16_head.mono _)
      | (with_reducible exact phaetonref16_Check.mono _ _ _ _ _ _ _ _)
      | (with_reducible exact phaetonref16_Open.mono _ _ _)
      | (with_reducible exact phaetonref16_Wrap.mono _ _ _ _)
      | (with_reducible exact LeO.refl _)
      | (with_reducible exact LeO.none _)
      | (with_reducible refine LeO.ite ?_ ?_)
      | (with_reducible refine LeO.bind ?_ (fun _ => ?_))
      | exact ih0 _ _ _ _ _ _ _ _ _
      | exact phaetonlaw16_head.mono _
      | exact phaetonref16_Check.mono _ _ _ _ _ _ _ _
      | exact phaetonref16_Open.mono _ _ _
      | exact phaetonref16_Wrap.mono _ _ _ _
      | exact LeO.none _
      | refine LeO.ite ?_ ?_
      | refine LeO.bind ?_ (fun _ => ?_)
theorem phaetonlaw16_TrustTells.mono : ∀ a0 a1 a2 a3 a4 a5 a6 a7 k, LeO (phaetonlaw16_TrustTells.f k a0 a1 a2 a3 a4 a5 a6 a7) (phaetonlaw16_TrustTells.f (k + 1) a0 a1 a2 a3 a4 a5 a6 a7) := by
  intro a0 a1 a2 a3 a4 a5 a6 a7 k
  have ih0 := phaetonlaw16_TrustTells.mono_l k
  unfold phaetonlaw16_TrustTells.f
  repeat' first
      | (with_reducible exact ih0 _ _ _ _ _ _ _ _ _)
      | (with_reducible exact phaetonlaw16_head.mono _)
      | (with_reducible exact phaetonref16_Check.mono _ _ _ _ _ _ _ _)
      | (with_reducible exact phaetonref16_Open.mono _ _ _)
      | (with_reducible exact phaetonref16_Wrap.mono _ _ _ _)
      | (with_reducible exact LeO.refl _)
      | (with_reducible exact LeO.none _)
      | (with_reducible refine LeO.ite ?_ ?_)
      | (with_reducible refine LeO.bind ?_ (fun _ => ?_))
      | exact ih0 _ _ _ _ _ _ _ _ _
      | exact phaetonlaw16_head.mono _
      | exact phaetonref16_Check.mono _ _ _ _ _ _ _ _
      | exact phaetonref16_Open.mono _ _ _
      | exact phaetonref16_Wrap.mono _ _ _ _
      | exact LeO.none _
      | refine LeO.ite ?_ ?_
      | refine LeO.bind ?_ (fun _ => ?_)
set_option maxHeartbeats 8000000 in
set_option maxRecDepth 100000 in
theorem phaetonlaw16_TrustTells.calls (k : Nat) (a0 : Int) (a1 : Int) (A2 : Option Addr) (c2 : Nat) (l2 : List Int) (a3_0 : Bool) (a3_1 : Int) (a3_2 : Int) (a3_3 : Int) (a4 : Int) (r : Bool) (w : World) (hr2 : Kd.C (Kd.int .u8) w A2 l2.length l2) (hc2 : l2.length ≤ c2) (h : phaetonlaw16_TrustTells.f k a0 a1 l2 a3_0 a3_1 a3_2 a3_3 a4 = some r) :
    Calls Try.prog 3 #[.int .i64 a0, .int .i64 a1, .slice A2 l2.length c2, .agg #[.bool a3_0, .int .i64 a3_1, .int .i64 a3_2, .int .i64 a3_3], .int .u8 a4] w fun e w' => e = .returned (.bool r) ∧ Below w.heap.size w w' := by
  have hu24 := Try.underlying24
  have HR2 := Aside0.mk hr2
  have HC2 := Aside0.mk hc2
  clear hr2 hc2
  have HB := Aside0.mk (Below.refl w.heap.size w)
  have H : ((phaetonlaw16_head.f k).bind fun t240 => (if (l2.length : Int) > 100 then (if t240 = true then (some true) else (none)) else ((trust_Wrap.f a0 a1 l2).bind fun bt241 => ((phaetonref16_Wrap.f k a0 a1 l2).bind fun bt245 => ((trust_Open.f a0 l2).bind fun bt249 => ((phaetonref16_Open.f k a0 l2).bind fun bt254 => ((phaetonref01_SameBytes.f bt241.1 bt245.1).bind fun t259 => (if t259 = true then (if (bt241.2 != bt245.2) = true then (phaetonlaw16_TrustTells.j0 k a0 l2 a4 t240 true a3_0 a3_1 a3_2 a3_3) else ((phaetonref01_SameBytes.f bt249.1 bt254.1).bind fun t260 => (if t260 = true then (if bt249.2.1 = bt254.2.1 then (if (bt249.2.2 != bt254.2.2) = true then (phaetonlaw16_TrustTells.j0 k a0 l2 a4 t240 true a3_0 a3_1 a3_2 a3_3) else ((trust_New.f).bind fun bt261 => ((phaetonref16_New.f).bind fun bt265 => (phaetonlaw16_TrustTells.j0 k a0 l2 a4 t240 (!(bt261.1 == bt265.1) || (!(bt261.2.1 == bt265.2.1) || (!(bt261.2.2.1 == bt265.2.2.1) || (!(bt261.2.2.2 == bt265.2.2.2))))) a3_0 a3_1 a3_2 a3_3)))) else (phaetonlaw16_TrustTells.j0 k a0 l2 a4 t240 true a3_0 a3_1 a3_2 a3_3)) else (phaetonlaw16_TrustTells.j0 k a0 l2 a4 t240 true a3_0 a3_1 a3_2 a3_3)))) else (phaetonlaw16_TrustTells.j0 k a0 l2 a4 t240 true a3_0 a3_1 a3_2 a3_3))))))))) = some r := h
  clear h
  replace H := Option.bind_eq_some_iff.mp H
  obtain ⟨t240, A60, H⟩ := H
  replace H : (if (l2.length : Int) > 100 then (if t240 = true then (some true) else (none)) else ((trust_Wrap.f a0 a1 l2).bind fun bt241 => ((phaetonref16_Wrap.f k a0 a1 l2).bind fun bt245 => ((trust_Open.f a0 l2).bind fun bt249 => ((phaetonref16_Open.f k a0 l2).bind fun bt254 => ((phaetonref01_SameBytes.f bt241.1 bt245.1).bind fun t259 => (if t259 = true then (if (bt241.2 != bt245.2) = true then (phaetonlaw16_TrustTells.j0 k a0 l2 a4 t240 true a3_0 a3_1 a3_2 a3_3) else ((phaetonref01_SameBytes.f bt249.1 bt254.1).bind fun t260 => (if t260 = true then (if bt249.2.1 = bt254.2.1 then (if (bt249.2.2 != bt254.2.2) = true then (phaetonlaw16_TrustTells.j0 k a0 l2 a4 t240 true a3_0 a3_1 a3_2 a3_3) else ((trust_New.f).bind fun bt261 => ((phaetonref16_New.f).bind fun bt265 => (phaetonlaw16_TrustTells.j0 k a0 l2 a4 t240 (!(bt261.1 == bt265.1) || (!(bt261.2.1 == bt265.2.1) || (!(bt261.2.2.1 == bt265.2.2.1) || (!(bt261.2.2.2 == bt265.2.2.2))))) a3_0 a3_1 a3_2 a3_3)))) else (phaetonlaw16_TrustTells.j0 k a0 l2 a4 t240 true a3_0 a3_1 a3_2 a3_3)) else (phaetonlaw16_TrustTells.j0 k a0 l2 a4 t240 true a3_0 a3_1 a3_2 a3_3)))) else (phaetonlaw16_TrustTells.j0 k a0 l2 a4 t240 true a3_0 a3_1 a3_2 a3_3)))))))) = some r := H
  have A6 := Aside0.mk A60
  clear A60
  by_cases c7 : (l2.length : Int) > 100
  · rw [if_pos c7] at H
    have c7b0 : decide (100 < (l2.length : Int)) = true := decide_eq_true c7
    have c7b1 : decide (100 < l2.length) = true := decide_eq_true (by omega)
    clear c7
    by_cases c8 : t240 = true
    · subst c8
      have H1 : (some true) = some r := by rw [if_pos rfl] at H; exact H
      clear H
      have H := H1
      clear H1
      obtain rfl := Option.some.inj H
      go_enter Try.func3, Try.ntmps3
      (try simp only [List.append])
      go_wp2_with (first | ((with_reducible refine gate_store (t := 24) (p := 8) rfl ?_); refine HW.store_box rfl rfl 24 _ _ rfl rfl rfl BK239.out rfl (by kernel_rfl) (by intro q hq; simp only [List.mem_cons, List.not_mem_nil, or_false] at hq; rcases hq with rfl | rfl | rfl | rfl <;> rfl) ?_; intro w1_ hw1_; simp only [List.toList_toArray, World.setCells, Nat.zero_add, Nat.reduceAdd] at hw1_; subst hw1_) | ((with_reducible refine gate_dst (N := 8) rfl ?_); refine box_event ?hg (N := 8) ?hd (cs := #[.bool a3_0, .int .i64 a3_1, .int .i64 a3_2, .int .i64 a3_3]) (t := 24) ?hr ?_; (case hd => rfl); (case hg => rfl); (case hr => first | (go_simp; done) | (go_simp; rfl)); intro gb239 hg w9 hbox hb; have n0_ := Aside0.mk (below_step (by repeat (first | (with_reducible first | exact HB.out | apply below_alloc | apply pw_below_drewN | apply below_drew1) | exact HB.out)) hb); have n1_ := Aside0.mk (hbox); have n2_ := Aside0.mk ((by rw [hg]; exact (below_size (by repeat (first | (with_reducible first | exact HB.out | apply below_alloc | apply pw_below_drewN | apply below_drew1) | exact HB.out))) : w.heap.size ≤ gb239)); have n3_ := Aside0.mk ((by rw [hg]; exact (below_size (by repeat (first | (with_reducible first | exact HB.out | apply below_alloc | apply pw_below_drewN | apply below_drew1) | exact HB.out))) : w.heap.size ≤ gb239)); clear HB; have HB := n0_; have BK239 := n1_; have GW239 := n2_; have GE239 := n3_; clear n0_ n1_ n2_ n3_; clear hb hbox hg) | ((with_reducible refine gate_callee (f := 10) rfl ?_); refine goesL_ (some 29) rfl rfl Try.func10 (by kernel_rfl) rfl #[] rfl (by (try simp only [List.map_toArray, List.map_cons, List.map_nil]); first | done | rfl | (simp only [List.length_drop, List.length_take]; rfl)) ?_; (with_reducible refine (phaetonlaw16_head.calls k  true _ A6.out).mono ?_); rintro e w10 ⟨rfl, hb⟩; refine ⟨_, rfl, ?_⟩; have n0_ := Aside0.mk (blk_below (g := gb239) (o := .cells #[.bool a3_0, .int .i64 a3_1, .int .i64 a3_2, .int .i64 a3_3] 24 (0, 0)) (by (with_reducible repeat (first | refine blk_drewN ?_ _ | refine blk_drew ?_ | refine blk_alloc ?_ _)); exact BK239.out) hb); have n1_ := Aside0.mk (below_step (by repeat (first | (with_reducible first | exact HB.out | apply below_alloc | apply pw_below_drewN | apply below_drew1 | refine below_set ?_ GE239.out) | exact HB.out)) hb); clear BK239; clear HB; have BK239 := n0_; have HB := n1_; clear n0_ n1_; (try clear hb); (try clear hb2); (try clear hk); (try clear hi)))
      go_ret
      exact ⟨by first | rfl | (simp [errW_none, errW_some] <;> rfl) | (simp [*, errW_none, errW_some] <;> rfl), by repeat (first | (with_reducible first | exact HB.out | apply below_alloc | apply pw_below_drewN | apply below_drew1 | refine below_set ?_ GE239.out) | exact HB.out)⟩
    · replace c8 := Bool.eq_false_iff.mpr c8
      subst c8
      have H1 : (none) = some r := by rw [if_neg (show ¬ (false = true) by decide)] at H; exact H
      clear H
      have H := H1
      clear H1
      exact absurd H (by simp)
  · rw [if_neg c7] at H
    have c7b0 : decide (100 < (l2.length : Int)) = false := decide_eq_false c7
    have c7b1 : decide (100 < l2.length) = false := decide_eq_false (by omega)
    clear c7
    replace H := Option.bind_eq_some_iff.mp H
    obtain ⟨⟨t241, t242⟩, A110, H⟩ := H
    replace H : ((phaetonref16_Wrap.f k a0 a1 l2).bind fun bt245 => ((trust_Open.f a0 l2).bind fun bt249 => ((phaetonref16_Open.f k a0 l2).bind fun bt254 => ((phaetonref01_SameBytes.f t241 bt245.1).bind fun t259 => (if t259 = true then (if (t242 != bt245.2) = true then (phaetonlaw16_TrustTells.j0 k a0 l2 a4 t240 true a3_0 a3_1 a3_2 a3_3) else ((phaetonref01_SameBytes.f bt249.1 bt254.1).bind fun t260 => (if t260 = true then (if bt249.2.1 = bt254.2.1 then (if (bt249.2.2 != bt254.2.2) = true then (phaetonlaw16_TrustTells.j0 k a0 l2 a4 t240 true a3_0 a3_1 a3_2 a3_3) else ((trust_New.f).bind fun bt261 => ((phaetonref16_New.f).bind fun bt265 => (phaetonlaw16_TrustTells.j0 k a0 l2 a4 t240 (!(bt261.1 == bt265.1) || (!(bt261.2.1 == bt265.2.1) || (!(bt261.2.2.1 == bt265.2.2.1) || (!(bt261.2.2.2 == bt265.2.2.2))))) a3_0 a3_1 a3_2 a3_3)))) else (phaetonlaw16_TrustTells.j0 k a0 l2 a4 t240 true a3_0 a3_1 a3_2 a3_3)) else (phaetonlaw16_TrustTells.j0 k a0 l2 a4 t240 true a3_0 a3_1 a3_2 a3_3)))) else (phaetonlaw16_TrustTells.j0 k a0 l2 a4 t240 true a3_0 a3_1 a3_2 a3_3)))))) = some r := H
    have A11 := Aside0.mk A110
    clear A110
    replace H := Option.bind_eq_some_iff.mp H
    obtain ⟨⟨t245, t246⟩, A120, H⟩ := H
    replace H : ((trust_Open.f a0 l2).bind fun bt249 => ((phaetonref16_Open.f k a0 l2).bind fun bt254 => ((phaetonref01_SameBytes.f t241 t245).bind fun t259 => (if t259 = true then (if (t242 != t246) = true then (phaetonlaw16_TrustTells.j0 k a0 l2 a4 t240 true a3_0 a3_1 a3_2 a3_3) else ((phaetonref01_SameBytes.f bt249.1 bt254.1).bind fun t260 => (if t260 = true then (if bt249.2.1 = bt254.2.1 then (if (bt249.2.2 != bt254.2.2) = true then (phaetonlaw16_TrustTells.j0 k a0 l2 a4 t240 true a3_0 a3_1 a3_2 a3_3) else ((trust_New.f).bind fun bt261 => ((phaetonref16_New.f).bind fun bt265 => (phaetonlaw16_TrustTells.j0 k a0 l2 a4 t240 (!(bt261.1 == bt265.1) || (!(bt261.2.1 == bt265.2.1) || (!(bt261.2.2.1 == bt265.2.2.1) || (!(bt261.2.2.2 == bt265.2.2.2))))) a3_0 a3_1 a3_2 a3_3)))) else (phaetonlaw16_TrustTells.j0 k a0 l2 a4 t240 true a3_0 a3_1 a3_2 a3_3)) else (phaetonlaw16_TrustTells.j0 k a0 l2 a4 t240 true a3_0 a3_1 a3_2 a3_3)))) else (phaetonlaw16_TrustTells.j0 k a0 l2 a4 t240 true a3_0 a3_1 a3_2 a3_3))))) = some r := H
    have A12 := Aside0.mk A120
    clear A120
    replace H := Option.bind_eq_some_iff.mp H
    obtain ⟨⟨t249, t250, t251⟩, A130, H⟩ := H
    replace H : ((phaetonref16_Open.f k a0 l2).bind fun bt254 => ((phaetonref01_SameBytes.f t241 t245).bind fun t259 => (if t259 = true then (if (t242 != t246) = true then (phaetonlaw16_TrustTells.j0 k a0 l2 a4 t240 true a3_0 a3_1 a3_2 a3_3) else ((phaetonref01_SameBytes.f t249 bt254.1).bind fun t260 => (if t260 = true then (if t250 = bt254.2.1 then (if (t251 != bt254.2.2) = true then (phaetonlaw16_TrustTells.j0 k a0 l2 a4 t240 true a3_0 a3_1 a3_2 a3_3) else ((trust_New.f).bind fun bt261 => ((phaetonref16_New.f).bind fun bt265 => (phaetonlaw16_TrustTells.j0 k a0 l2 a4 t240 (!(bt261.1 == bt265.1) || (!(bt261.2.1 == bt265.2.1) || (!(bt261.2.2.1 == bt265.2.2.1) || (!(bt261.2.2.2 == bt265.2.2.2))))) a3_0 a3_1 a3_2 a3_3)))) else (phaetonlaw16_TrustTells.j0 k a0 l2 a4 t240 true a3_0 a3_1 a3_2 a3_3)) else (phaetonlaw16_TrustTells.j0 k a0 l2 a4 t240 true a3_0 a3_1 a3_2 a3_3)))) else (phaetonlaw16_TrustTells.j0 k a0 l2 a4 t240 true a3_0 a3_1 a3_2 a3_3)))) = some r := H
    have A13 := Aside0.mk A130
    clear A130
    replace H := Option.bind_eq_some_iff.mp H
    obtain ⟨⟨t254, t255, t256⟩, A140, H⟩ := H
    replace H : ((phaetonref01_SameBytes.f t241 t245).bind fun t259 => (if t259 = true then (if (t242 != t246) = true then (phaetonlaw16_TrustTells.j0 k a0 l2 a4 t240 true a3_0 a3_1 a3_2 a3_3) else ((phaetonref01_SameBytes.f t249 t254).bind fun t260 => (if t260 = true then (if t250 = t255 then (if (t251 != t256) = true then (phaetonlaw16_TrustTells.j0 k a0 l2 a4 t240 true a3_0 a3_1 a3_2 a3_3) else ((trust_New.f).bind fun bt261 => ((phaetonref16_New.f).bind fun bt265 => (phaetonlaw16_TrustTells.j0 k a0 l2 a4 t240 (!(bt261.1 == bt265.1) || (!(bt261.2.1 == bt265.2.1) || (!(bt261.2.2.1 == bt265.2.2.1) || (!(bt261.2.2.2 == bt265.2.2.2))))) a3_0 a3_1 a3_2 a3_3)))) else (phaetonlaw16_TrustTells.j0 k a0 l2 a4 t240 true a3_0 a3_1 a3_2 a3_3)) else (phaetonlaw16_TrustTells.j0 k a0 l2 a4 t240 true a3_0 a3_1 a3_2 a3_3)))) else (phaetonlaw16_TrustTells.j0 k a0 l2 a4 t240 true a3_0 a3_1 a3_2 a3_3))) = some r := H
    have A14 := Aside0.mk A140
    clear A140
    have HC15 := Aside0.mk H
    clear H
    go_enter Try.func3, Try.ntmps3
    (try simp only [List.append])
    go_upto_region 8 with (first | ((with_reducible refine gate_dst (N := 8) rfl ?_); refine box_event ?hg (N := 8) ?hd (cs := #[.bool a3_0, .int .i64 a3_1, .int .i64 a3_2, .int .i64 a3_3]) (t := 24) ?hr ?_; (case hd => rfl); (case hg => rfl); (case hr => first | (go_simp; done) | (go_simp; rfl)); intro gb239 hg w16 hbox hb; have n0_ := Aside0.mk (below_step (by repeat (first | (with_reducible first | exact HB.out | apply below_alloc | apply pw_below_drewN | apply below_drew1) | exact HB.out)) hb); have n1_ := Aside0.mk (hbox); have n2_ := Aside0.mk ((by rw [hg]; exact (below_size (by repeat (first | (with_reducible first | exact HB.out | apply below_alloc | apply pw_below_drewN | apply below_drew1) | exact HB.out))) : w.heap.size ≤ gb239)); have n3_ := Aside0.mk ((by rw [hg]; exact (below_size (by repeat (first | (with_reducible first | exact HB.out | apply below_alloc | apply pw_below_drewN | apply below_drew1) | exact HB.out))) : w.heap.size ≤ gb239)); clear HB; have HB := n0_; have BK239 := n1_; have GW239 := n2_; have GE239 := n3_; clear n0_ n1_ n2_ n3_; clear hb hbox hg) | ((with_reducible refine gate_callee (f := 10) rfl ?_); refine goesL_ (some 29) rfl rfl Try.func10 (by kernel_rfl) rfl #[] rfl (by (try simp only [List.map_toArray, List.map_cons, List.map_nil]); first | done | rfl | (simp only [List.length_drop, List.length_take]; rfl)) ?_; (with_reducible refine (phaetonlaw16_head.calls k  t240 _ A6.out).mono ?_); rintro e w17 ⟨rfl, hb⟩; refine ⟨_, rfl, ?_⟩; have n0_ := Aside0.mk (blk_below (g := gb239) (o := .cells #[.bool a3_0, .int .i64 a3_1, .int .i64 a3_2, .int .i64 a3_3] 24 (0, 0)) (by (with_reducible repeat (first | refine blk_drewN ?_ _ | refine blk_drew ?_ | refine blk_alloc ?_ _)); exact BK239.out) hb); have n1_ := Aside0.mk (below_step (by repeat (first | (with_reducible first | exact HB.out | apply below_alloc | apply pw_below_drewN | apply below_drew1 | refine below_set ?_ GE239.out) | exact HB.out)) hb); clear BK239; clear HB; have BK239 := n0_; have HB := n1_; clear n0_ n1_; (try clear hb); (try clear hb2); (try clear hk); (try clear hi)) | ((with_reducible refine gate_callee (f := 11) rfl ?_); refine goesL_ (some 38) rfl rfl Try.func11 (by kernel_rfl) rfl #[.int .i64 a0, .int .i64 a1, .slice A2 l2.length c2] rfl (by (try simp only [List.map_toArray, List.map_cons, List.map_nil]); first | done | rfl | (simp only [List.length_drop, List.length_take]; rfl)) ?_; (with_reducible refine (trust_Wrap.calls a0 a1 _ _ l2 t241 t242 _ ?side1 ?side2 A11.out).mono ?_); (case side1 => repeat (first | exact (Kd.C_below HR2.out HB.out) | (with_reducible refine Kd.C_alloc ?_ _) | (with_reducible refine Kd.C_drewN ?_ _) | (with_reducible refine Kd.C_drew ?_))); (case side2 => exact HC2.out); rintro e w18 ⟨v243, rfl, ho0, hb⟩; refine ⟨_, rfl, ?_⟩; have n0_ := Aside0.mk (Kd.R_lower ho0 (below_size (by repeat (first | (with_reducible first | exact HB.out | apply below_alloc | apply pw_below_drewN | apply below_drew1 | refine below_set ?_ GE239.out) | exact HB.out)))); have n1_ := Aside0.mk (blk_below (g := gb239) (o := .cells #[.bool a3_0, .int .i64 a3_1, .int .i64 a3_2, .int .i64 a3_3] 24 (0, 0)) (by (with_reducible repeat (first | refine blk_drewN ?_ _ | refine blk_drew ?_ | refine blk_alloc ?_ _)); exact BK239.out) hb); have n2_ := Aside0.mk (below_step (by repeat (first | (with_reducible first | exact HB.out | apply below_alloc | apply pw_below_drewN | apply below_drew1 | refine below_set ?_ GE239.out) | exact HB.out)) hb); clear BK239; clear HB; have HO244 := n0_; have BK239 := n1_; have HB := n2_; clear n0_ n1_ n2_; (try clear hb); (try clear hb2); (try clear hk); (try clear hi); (try clear ho0)) | ((with_reducible refine gate_callee (f := 12) rfl ?_); refine goesL_ (some 45) rfl rfl Try.func12 (by kernel_rfl) rfl #[.int .i64 a0, .int .i64 a1, .slice A2 l2.length c2] rfl (by (try simp only [List.map_toArray, List.map_cons, List.map_nil]); first | done | rfl | (simp only [List.length_drop, List.length_take]; rfl)) ?_; (with_reducible refine (phaetonref16_Wrap.calls k a0 a1 _ _ l2 t245 t246 _ ?side1 ?side2 A12.out).mono ?_); (case side1 => repeat (first | exact (Kd.C_below HR2.out HB.out) | (with_reducible refine Kd.C_alloc ?_ _) | (with_reducible refine Kd.C_drewN ?_ _) | (with_reducible refine Kd.C_drew ?_))); (case side2 => exact HC2.out); rintro e w19 ⟨v247, rfl, ho0, hb⟩; refine ⟨_, rfl, ?_⟩; have n0_ := Aside0.mk (Kd.R_elder' (by (with_reducible repeat (first | apply Kd.R_alloc | apply Kd.R_drewN | apply Kd.R_drew)); exact HO244.out) (Kd.R_base ho0) hb); have n1_ := Aside0.mk (Kd.R_lower (Kd.R_new' ho0 (Kd.R_lt (by (with_reducible repeat (first | apply Kd.R_alloc | apply Kd.R_drewN | apply Kd.R_drew)); exact HO244.out))) (below_size (by repeat (first | (with_reducible first | exact HB.out | apply below_alloc | apply pw_below_drewN | apply below_drew1 | refine below_set ?_ GE239.out) | exact HB.out)))); have n2_ := Aside0.mk (blk_below (g := gb239) (o := .cells #[.bool a3_0, .int .i64 a3_1, .int .i64 a3_2, .int .i64 a3_3] 24 (0, 0)) (by (with_reducible repeat (first | refine blk_drewN ?_ _ | refine blk_drew ?_ | refine blk_alloc ?_ _)); exact BK239.out) hb); have n3_ := Aside0.mk (below_step (by repeat (first | (with_reducible first | exact HB.out | apply below_alloc | apply pw_below_drewN | apply below_drew1 | refine below_set ?_ GE239.out) | exact HB.out)) hb); clear HO244; clear BK239; clear HB; have HO244 := n0_; have HO248 := n1_; have BK239 := n2_; have HB := n3_; clear n0_ n1_ n2_ n3_; (try clear hb); (try clear hb2); (try clear hk); (try clear hi); (try clear ho0)) | ((with_reducible refine gate_callee (f := 13) rfl ?_); refine goesL_ (some 51) rfl rfl Try.func13 (by kernel_rfl) rfl #[.int .i64 a0, .slice A2 l2.length c2] rfl (by (try simp only [List.map_toArray, List.map_cons, List.map_nil]); first | done | rfl | (simp only [List.length_drop, List.length_take]; rfl)) ?_; (with_reducible refine (trust_Open.calls a0 _ _ l2 t249 t250 t251 _ ?side1 ?side2 A13.out).mono ?_); (case side1 => repeat (first | exact (Kd.C_below HR2.out HB.out) | (with_reducible refine Kd.C_alloc ?_ _) | (with_reducible refine Kd.C_drewN ?_ _) | (with_reducible refine Kd.C_drew ?_))); (case side2 => exact HC2.out); rintro e w20 ⟨v252, rfl, ho0, hb⟩; refine ⟨_, rfl, ?_⟩; have n0_ := Aside0.mk (Kd.R_elder' (by (with_reducible repeat (first | apply Kd.R_alloc | apply Kd.R_drewN | apply Kd.R_drew)); exact HO244.out) (Kd.R_base ho0) hb); have n1_ := Aside0.mk (Kd.R_elder' (by (with_reducible repeat (first | apply Kd.R_alloc | apply Kd.R_drewN | apply Kd.R_drew)); exact HO248.out) (Kd.R_base ho0) hb); have n2_ := Aside0.mk (Kd.R_lower (Kd.R_new' (Kd.R_new' ho0 (Kd.R_lt (by (with_reducible repeat (first | apply Kd.R_alloc | apply Kd.R_drewN | apply Kd.R_drew)); exact HO244.out))) (Kd.R_lt (by (with_reducible repeat (first | apply Kd.R_alloc | apply Kd.R_drewN | apply Kd.R_drew)); exact HO248.out))) (below_size (by repeat (first | (with_reducible first | exact HB.out | apply below_alloc | apply pw_below_drewN | apply below_drew1 | refine below_set ?_ GE239.out) | exact HB.out)))); have n3_ := Aside0.mk (blk_below (g := gb239) (o := .cells #[.bool a3_0, .int .i64 a3_1, .int .i64 a3_2, .int .i64 a3_3] 24 (0, 0)) (by (with_reducible repeat (first | refine blk_drewN ?_ _ | refine blk_drew ?_ | refine blk_alloc ?_ _)); exact BK239.out) hb); have n4_ := Aside0.mk (below_step (by repeat (first | (with_reducible first | exact HB.out | apply below_alloc | apply pw_below_drewN | apply below_drew1 | refine below_set ?_ GE239.out) | exact HB.out)) hb); clear HO244; clear HO248; clear BK239; clear HB; have HO244 := n0_; have HO248 := n1_; have HO253 := n2_; have BK239 := n3_; have HB := n4_; clear n0_ n1_ n2_ n3_ n4_; (try clear hb); (try clear hb2); (try clear hk); (try clear hi); (try clear ho0)) | ((with_reducible refine gate_callee (f := 14) rfl ?_); refine goesL_ (some 58) rfl rfl Try.func14 (by kernel_rfl) rfl #[.int .i64 a0, .slice A2 l2.length c2] rfl (by (try simp only [List.map_toArray, List.map_cons, List.map_nil]); first | done | rfl | (simp only [List.length_drop, List.length_take]; rfl)) ?_; (with_reducible refine (phaetonref16_Open.calls k a0 _ _ l2 t254 t255 t256 _ ?side1 ?side2 A14.out).mono ?_); (case side1 => repeat (first | exact (Kd.C_below HR2.out HB.out) | (with_reducible refine Kd.C_alloc ?_ _) | (with_reducible refine Kd.C_drewN ?_ _) | (with_reducible refine Kd.C_drew ?_))); (case side2 => exact HC2.out); rintro e w21 ⟨v257, rfl, ho0, hb⟩; refine ⟨_, rfl, ?_⟩; have n0_ := Aside0.mk (Kd.R_elder' (by (with_reducible repeat (first | apply Kd.R_alloc | apply Kd.R_drewN | apply Kd.R_drew)); exact HO244.out) (Kd.R_base ho0) hb); have n1_ := Aside0.mk (Kd.R_elder' (by (with_reducible repeat (first | apply Kd.R_alloc | apply Kd.R_drewN | apply Kd.R_drew)); exact HO248.out) (Kd.R_base ho0) hb); have n2_ := Aside0.mk (Kd.R_elder' (by (with_reducible repeat (first | apply Kd.R_alloc | apply Kd.R_drewN | apply Kd.R_drew)); exact HO253.out) (Kd.R_base ho0) hb); have n3_ := Aside0.mk (Kd.R_lower (Kd.R_new' (Kd.R_new' (Kd.R_new' ho0 (Kd.R_lt (by (with_reducible repeat (first | apply Kd.R_alloc | apply Kd.R_drewN | apply Kd.R_drew)); exact HO244.out))) (Kd.R_lt (by (with_reducible repeat (first | apply Kd.R_alloc | apply Kd.R_drewN | apply Kd.R_drew)); exact HO248.out))) (Kd.R_lt (by (with_reducible repeat (first | apply Kd.R_alloc | apply Kd.R_drewN | apply Kd.R_drew)); exact HO253.out))) (below_size (by repeat (first | (with_reducible first | exact HB.out | apply below_alloc | apply pw_below_drewN | apply below_drew1 | refine below_set ?_ GE239.out) | exact HB.out)))); have n4_ := Aside0.mk (blk_below (g := gb239) (o := .cells #[.bool a3_0, .int .i64 a3_1, .int .i64 a3_2, .int .i64 a3_3] 24 (0, 0)) (by (with_reducible repeat (first | refine blk_drewN ?_ _ | refine blk_drew ?_ | refine blk_alloc ?_ _)); exact BK239.out) hb); have n5_ := Aside0.mk (below_step (by repeat (first | (with_reducible first | exact HB.out | apply below_alloc | apply pw_below_drewN | apply below_drew1 | refine below_set ?_ GE239.out) | exact HB.out)) hb); clear HO244; clear HO248; clear HO253; clear BK239; clear HB; have HO244 := n0_; have HO248 := n1_; have HO253 := n2_; have HO258 := n3_; have BK239 := n4_; have HB := n5_; clear n0_ n1_ n2_ n3_ n4_ n5_; (try clear hb); (try clear hb2); (try clear hk); (try clear hi); (try clear ho0)))
    (try simp only [Act.put, List.setIfInBounds_toArray, List.set_cons_zero, List.set_cons_succ])
    go_cut [91] (fun v91 wc => ∃ (kq : Nat) (x91_14 : Bool), v91 = .bool x91_14 ∧ Aside0 (phaetonlaw16_TrustTells.j0 kq a0 l2 a4 t240 x91_14 a3_0 a3_1 a3_2 a3_3 = some r) ∧ Aside0 (kq ≤ k) ∧ Aside0 (wc.heap[gb239]? = some (.cells #[.bool a3_0, .int .i64 a3_1, .int .i64 a3_2, .int .i64 a3_3] 24 (0, 0))) ∧ Aside0 (Below w.heap.size w wc))
    case first =>
      have H := HC15.out
      clear HC15
      replace H := Option.bind_eq_some_iff.mp H
      obtain ⟨t259, A220, H⟩ := H
      replace H : (if t259 = true then (if (t242 != t246) = true then (phaetonlaw16_TrustTells.j0 k a0 l2 a4 t240 true a3_0 a3_1 a3_2 a3_3) else ((phaetonref01_SameBytes.f t249 t254).bind fun t260 => (if t260 = true then (if t250 = t255 then (if (t251 != t256) = true then (phaetonlaw16_TrustTells.j0 k a0 l2 a4 t240 true a3_0 a3_1 a3_2 a3_3) else ((trust_New.f).bind fun bt261 => ((phaetonref16_New.f).bind fun bt265 => (phaetonlaw16_TrustTells.j0 k a0 l2 a4 t240 (!(bt261.1 == bt265.1) || (!(bt261.2.1 == bt265.2.1) || (!(bt261.2.2.1 == bt265.2.2.1) || (!(bt261.2.2.2 == bt265.2.2.2))))) a3_0 a3_1 a3_2 a3_3)))) else (phaetonlaw16_TrustTells.j0 k a0 l2 a4 t240 true a3_0 a3_1 a3_2 a3_3)) else (phaetonlaw16_TrustTells.j0 k a0 l2 a4 t240 true a3_0 a3_1 a3_2 a3_3)))) else (phaetonlaw16_TrustTells.j0 k a0 l2 a4 t240 true a3_0 a3_1 a3_2 a3_3)) = some r := H
      have A22 := Aside0.mk A220
      clear A220
      by_cases c23 : t259 = true
      · subst c23
        have H1 : (if (t242 != t246) = true then (phaetonlaw16_TrustTells.j0 k a0 l2 a4 t240 true a3_0 a3_1 a3_2 a3_3) else ((phaetonref01_SameBytes.f t249 t254).bind fun t260 => (if t260 = true then (if t250 = t255 then (if (t251 != t256) = true then (phaetonlaw16_TrustTells.j0 k a0 l2 a4 t240 true a3_0 a3_1 a3_2 a3_3) else ((trust_New.f).bind fun bt261 => ((phaetonref16_New.f).bind fun bt265 => (phaetonlaw16_TrustTells.j0 k a0 l2 a4 t240 (!(bt261.1 == bt265.1) || (!(bt261.2.1 == bt265.2.1) || (!(bt261.2.2.1 == bt265.2.2.1) || (!(bt261.2.2.2 == bt265.2.2.2))))) a3_0 a3_1 a3_2 a3_3)))) else (phaetonlaw16_TrustTells.j0 k a0 l2 a4 t240 true a3_0 a3_1 a3_2 a3_3)) else (phaetonlaw16_TrustTells.j0 k a0 l2 a4 t240 true a3_0 a3_1 a3_2 a3_3)))) = some r := by rw [if_pos rfl] at H; exact H
        clear H
        have H := H1
        clear H1
        by_cases c24 : (t242 != t246) = true
        · rw [if_pos c24] at H
          have c24b0 : (t242 != t246) = true := c24
          (try (have c24b1 : decide (t242 = t246) = false := by simpa using c24))
          (try (have c24b2 : (t242 == t246) = false := by simpa using c24))
          (try (have c24b3 : ¬ (t242 = t246) := by simpa using c24))
          clear c24
          (first | rw [c24b0] | (simp only [i64_w, i32_w]; rw [c24b0]) | skip)
          have H' := Aside0.mk H
          clear H
          obtain ⟨Ao25, co25, eo25⟩ := Kd.R_slice HO244.out
          subst eo25
          obtain ⟨Ao26, co26, eo26⟩ := Kd.R_slice HO248.out
          subst eo26
          go_wp2_with (first | ((with_reducible refine gate_callee (f := 15) rfl ?_); refine goesL_ (some 64) rfl rfl Try.func15 (by kernel_rfl) rfl #[.slice Ao25 t241.length co25, .slice Ao26 t245.length co26] rfl (by (try simp only [List.map_toArray, List.map_cons, List.map_nil]); first | done | rfl | (simp only [List.length_drop, List.length_take]; rfl)) ?_; (with_reducible refine (phaetonref01_SameBytes.calls _ _ t241 _ _ t245 true _ ?side1 ?side2 ?side3 ?side4 A22.out).mono ?_); (case side1 => repeat (first | exact (Kd.R_reads' HO244.out).2.2 | (with_reducible refine Kd.C_alloc ?_ _) | (with_reducible refine Kd.C_drewN ?_ _) | (with_reducible refine Kd.C_drew ?_))); (case side2 => exact (Kd.R_reads' HO244.out).2.1); (case side3 => repeat (first | exact (Kd.R_reads' HO248.out).2.2 | (with_reducible refine Kd.C_alloc ?_ _) | (with_reducible refine Kd.C_drewN ?_ _) | (with_reducible refine Kd.C_drew ?_))); (case side4 => exact (Kd.R_reads' HO248.out).2.1); rintro e w' ⟨rfl, ⟨nd, rfl⟩⟩; refine ⟨_, rfl, ?_⟩))
          go_meet
          case rel => exact ⟨_, (true), (by first | rfl | (simp; done) | (simp [*]; done)), H', ⟨by first | omega | exact Nat.le_refl _⟩, ⟨by (with_reducible repeat (first | refine blk_drewN ?_ _ | refine blk_drew ?_ | refine blk_alloc ?_ _)); exact BK239.out⟩, ⟨by repeat (first | (with_reducible first | exact HB.out | apply below_alloc | apply pw_below_drewN | apply below_drew1 | refine below_set ?_ GE239.out) | exact HB.out)⟩⟩
        · rw [if_neg c24] at H
          have c24b0 : (t242 != t246) = false := by simpa using c24
          (try (have c24b1 : decide (t242 = t246) = true := by simpa using c24))
          (try (have c24b2 : (t242 == t246) = true := by simpa using c24))
          clear c24
          (first | rw [c24b0] | (simp only [i64_w, i32_w]; rw [c24b0]) | skip)
          replace H := Option.bind_eq_some_iff.mp H
          obtain ⟨t260, A270, H⟩ := H
          replace H : (if t260 = true then (if t250 = t255 then (if (t251 != t256) = true then (phaetonlaw16_TrustTells.j0 k a0 l2 a4 t240 true a3_0 a3_1 a3_2 a3_3) else ((trust_New.f).bind fun bt261 => ((phaetonref16_New.f).bind fun bt265 => (phaetonlaw16_TrustTells.j0 k a0 l2 a4 t240 (!(bt261.1 == bt265.1) || (!(bt261.2.1 == bt265.2.1) || (!(bt261.2.2.1 == bt265.2.2.1) || (!(bt261.2.2.2 == bt265.2.2.2))))) a3_0 a3_1 a3_2 a3_3)))) else (phaetonlaw16_TrustTells.j0 k a0 l2 a4 t240 true a3_0 a3_1 a3_2 a3_3)) else (phaetonlaw16_TrustTells.j0 k a0 l2 a4 t240 true a3_0 a3_1 a3_2 a3_3)) = some r := H
          have A27 := Aside0.mk A270
          clear A270
          by_cases c28 : t260 = true
          · subst c28
            have H1 : (if t250 = t255 then (if (t251 != t256) = true then (phaetonlaw16_TrustTells.j0 k a0 l2 a4 t240 true a3_0 a3_1 a3_2 a3_3) else ((trust_New.f).bind fun bt261 => ((phaetonref16_New.f).bind fun bt265 => (phaetonlaw16_TrustTells.j0 k a0 l2 a4 t240 (!(bt261.1 == bt265.1) || (!(bt261.2.1 == bt265.2.1) || (!(bt261.2.2.1 == bt265.2.2.1) || (!(bt261.2.2.2 == bt265.2.2.2))))) a3_0 a3_1 a3_2 a3_3)))) else (phaetonlaw16_TrustTells.j0 k a0 l2 a4 t240 true a3_0 a3_1 a3_2 a3_3)) = some r := by rw [if_pos rfl] at H; exact H
            clear H
            have H := H1
            clear H1
            by_cases c29 : t250 = t255
            · rw [if_pos c29] at H
              have c29b0 : (t250 == t255) = true := beq_iff_eq.mpr c29
              have c29b1 : (t250 != t255) = false := bne_eq_false_iff_eq.mpr c29
              clear c29
              by_cases c30 : (t251 != t256) = true
              · rw [if_pos c30] at H
                have c30b0 : (t251 != t256) = true := c30
                (try (have c30b1 : decide (t251 = t256) = false := by simpa using c30))
                (try (have c30b2 : (t251 == t256) = false := by simpa using c30))
                (try (have c30b3 : ¬ (t251 = t256) := by simpa using c30))
                clear c30
                have H' := Aside0.mk H
                clear H
                obtain ⟨Ao31, co31, eo31⟩ := Kd.R_slice HO244.out
                subst eo31
                obtain ⟨Ao32, co32, eo32⟩ := Kd.R_slice HO248.out
                subst eo32
                go_wp2_with (first | ((with_reducible refine gate_callee (f := 15) rfl ?_); refine goesL_ (some 64) rfl rfl Try.func15 (by kernel_rfl) rfl #[.slice Ao31 t241.length co31, .slice Ao32 t245.length co32] rfl (by (try simp only [List.map_toArray, List.map_cons, List.map_nil]); first | done | rfl | (simp only [List.length_drop, List.length_take]; rfl)) ?_; (with_reducible refine (phaetonref01_SameBytes.calls _ _ t241 _ _ t245 true _ ?side1 ?side2 ?side3 ?side4 A22.out).mono ?_); (case side1 => repeat (first | exact (Kd.R_reads' HO244.out).2.2 | (with_reducible refine Kd.C_alloc ?_ _) | (with_reducible refine Kd.C_drewN ?_ _) | (with_reducible refine Kd.C_drew ?_))); (case side2 => exact (Kd.R_reads' HO244.out).2.1); (case side3 => repeat (first | exact (Kd.R_reads' HO248.out).2.2 | (with_reducible refine Kd.C_alloc ?_ _) | (with_reducible refine Kd.C_drewN ?_ _) | (with_reducible refine Kd.C_drew ?_))); (case side4 => exact (Kd.R_reads' HO248.out).2.1); rintro e w' ⟨rfl, ⟨nd, rfl⟩⟩; refine ⟨_, rfl, ?_⟩; obtain ⟨Ao33, co33, eo33⟩ := Kd.R_slice HO253.out; subst eo33; obtain ⟨Ao34, co34, eo34⟩ := Kd.R_slice HO258.out; subst eo34) | (go_at_call 15; (with_reducible refine (phaetonref01_SameBytes.calls _ _ t249 _ _ t254 true _ ?side1 ?side2 ?side3 ?side4 A27.out).mono ?_); (case side1 => repeat (first | exact (Kd.R_reads' HO253.out).2.2 | (with_reducible refine Kd.C_alloc ?_ _) | (with_reducible refine Kd.C_drewN ?_ _) | (with_reducible refine Kd.C_drew ?_))); (case side2 => exact (Kd.R_reads' HO253.out).2.1); (case side3 => repeat (first | exact (Kd.R_reads' HO258.out).2.2 | (with_reducible refine Kd.C_alloc ?_ _) | (with_reducible refine Kd.C_drewN ?_ _) | (with_reducible refine Kd.C_drew ?_))); (case side4 => exact (Kd.R_reads' HO258.out).2.1); rintro e w' ⟨rfl, ⟨nd, rfl⟩⟩))
                go_meet
                case rel => exact ⟨_, (true), (by first | rfl | (simp; done) | (simp [*]; done)), H', ⟨by first | omega | exact Nat.le_refl _⟩, ⟨by (with_reducible repeat (first | refine blk_drewN ?_ _ | refine blk_drew ?_ | refine blk_alloc ?_ _)); exact BK239.out⟩, ⟨by repeat (first | (with_reducible first | exact HB.out | apply below_alloc | apply pw_below_drewN | apply below_drew1 | refine below_set ?_ GE239.out) | exact HB.out)⟩⟩
              · rw [if_neg c30] at H
                have c30b0 : (t251 != t256) = false := by simpa using c30
                (try (have c30b1 : decide (t251 = t256) = true := by simpa using c30))
                (try (have c30b2 : (t251 == t256) = true := by simpa using c30))
                clear c30
                replace H := Option.bind_eq_some_iff.mp H
                obtain ⟨⟨t261, t262, t263, t264⟩, A350, H⟩ := H
                replace H : ((phaetonref16_New.f).bind fun bt265 => (phaetonlaw16_TrustTells.j0 k a0 l2 a4 t240 (!(t261 == bt265.1) || (!(t262 == bt265.2.1) || (!(t263 == bt265.2.2.1) || (!(t264 == bt265.2.2.2))))) a3_0 a3_1 a3_2 a3_3)) = some r := H
                have A35 := Aside0.mk A350
                clear A350
                replace H := Option.bind_eq_some_iff.mp H
                obtain ⟨⟨t265, t266, t267, t268⟩, A360, H⟩ := H
                replace H : (phaetonlaw16_TrustTells.j0 k a0 l2 a4 t240 (!(t261 == t265) || (!(t262 == t266) || (!(t263 == t267) || (!(t264 == t268))))) a3_0 a3_1 a3_2 a3_3) = some r := H
                have A36 := Aside0.mk A360
                clear A360
                have H' := Aside0.mk H
                clear H
                obtain ⟨Ao37, co37, eo37⟩ := Kd.R_slice HO244.out
                subst eo37
                obtain ⟨Ao38, co38, eo38⟩ := Kd.R_slice HO248.out
                subst eo38
                go_wp2_with (first | ((with_reducible refine gate_store (t := 24) (p := 8) rfl ?_); refine HW.store_box rfl rfl 24 _ _ rfl rfl rfl BK239.out rfl (by kernel_rfl) (by intro q hq; simp only [List.mem_cons, List.not_mem_nil, or_false] at hq; rcases hq with rfl | rfl | rfl | rfl <;> rfl) ?_; intro w1_ hw1_; simp only [List.toList_toArray, World.setCells, Nat.zero_add, Nat.reduceAdd] at hw1_; subst hw1_) | ((with_reducible refine gate_callee (f := 15) rfl ?_); refine goesL_ (some 64) rfl rfl Try.func15 (by kernel_rfl) rfl #[.slice Ao37 t241.length co37, .slice Ao38 t245.length co38] rfl (by (try simp only [List.map_toArray, List.map_cons, List.map_nil]); first | done | rfl | (simp only [List.length_drop, List.length_take]; rfl)) ?_; (with_reducible refine (phaetonref01_SameBytes.calls _ _ t241 _ _ t245 true _ ?side1 ?side2 ?side3 ?side4 A22.out).mono ?_); (case side1 => repeat (first | exact (Kd.R_reads' HO244.out).2.2 | (with_reducible refine Kd.C_alloc ?_ _) | (with_reducible refine Kd.C_drewN ?_ _) | (with_reducible refine Kd.C_drew ?_))); (case side2 => exact (Kd.R_reads' HO244.out).2.1); (case side3 => repeat (first | exact (Kd.R_reads' HO248.out).2.2 | (with_reducible refine Kd.C_alloc ?_ _) | (with_reducible refine Kd.C_drewN ?_ _) | (with_reducible refine Kd.C_drew ?_))); (case side4 => exact (Kd.R_reads' HO248.out).2.1); rintro e w' ⟨rfl, ⟨nd, rfl⟩⟩; refine ⟨_, rfl, ?_⟩; obtain ⟨Ao39, co39, eo39⟩ := Kd.R_slice HO253.out; subst eo39; obtain ⟨Ao40, co40, eo40⟩ := Kd.R_slice HO258.out; subst eo40) | (go_at_call 15; (with_reducible refine (phaetonref01_SameBytes.calls _ _ t249 _ _ t254 true _ ?side1 ?side2 ?side3 ?side4 A27.out).mono ?_); (case side1 => repeat (first | exact (Kd.R_reads' HO253.out).2.2 | (with_reducible refine Kd.C_alloc ?_ _) | (with_reducible refine Kd.C_drewN ?_ _) | (with_reducible refine Kd.C_drew ?_))); (case side2 => exact (Kd.R_reads' HO253.out).2.1); (case side3 => repeat (first | exact (Kd.R_reads' HO258.out).2.2 | (with_reducible refine Kd.C_alloc ?_ _) | (with_reducible refine Kd.C_drewN ?_ _) | (with_reducible refine Kd.C_drew ?_))); (case side4 => exact (Kd.R_reads' HO258.out).2.1); rintro e w' ⟨rfl, ⟨nd, rfl⟩⟩) | (go_at_call 16; (with_reducible refine (trust_New.calls  t261 t262 t263 t264 _ A35.out).mono ?_); rintro e w41 ⟨rfl, hb⟩; have n0_ := Aside0.mk (Kd.R_below (by (with_reducible repeat (first | apply Kd.R_alloc | apply Kd.R_drewN | apply Kd.R_drew)); exact HO244.out) hb); have n1_ := Aside0.mk (Kd.R_below (by (with_reducible repeat (first | apply Kd.R_alloc | apply Kd.R_drewN | apply Kd.R_drew)); exact HO248.out) hb); have n2_ := Aside0.mk (Kd.R_below (by (with_reducible repeat (first | apply Kd.R_alloc | apply Kd.R_drewN | apply Kd.R_drew)); exact HO253.out) hb); have n3_ := Aside0.mk (Kd.R_below (by (with_reducible repeat (first | apply Kd.R_alloc | apply Kd.R_drewN | apply Kd.R_drew)); exact HO258.out) hb); have n4_ := Aside0.mk (blk_below (g := gb239) (o := .cells #[.bool a3_0, .int .i64 a3_1, .int .i64 a3_2, .int .i64 a3_3] 24 (0, 0)) (by (with_reducible repeat (first | refine blk_drewN ?_ _ | refine blk_drew ?_ | refine blk_alloc ?_ _)); exact BK239.out) hb); have n5_ := Aside0.mk (below_step (by repeat (first | (with_reducible first | exact HB.out | apply below_alloc | apply pw_below_drewN | apply below_drew1 | refine below_set ?_ GE239.out) | exact HB.out)) hb); clear HO244; clear HO248; clear HO253; clear HO258; clear BK239; clear HB; have HO244 := n0_; have HO248 := n1_; have HO253 := n2_; have HO258 := n3_; have BK239 := n4_; have HB := n5_; clear n0_ n1_ n2_ n3_ n4_ n5_; (try clear hb); (try clear hb2); (try clear hk); (try clear hi)) | (go_at_call 17; (with_reducible refine (phaetonref16_New.calls  t265 t266 t267 t268 _ A36.out).mono ?_); rintro e w42 ⟨rfl, hb⟩; have n0_ := Aside0.mk (Kd.R_below (by (with_reducible repeat (first | apply Kd.R_alloc | apply Kd.R_drewN | apply Kd.R_drew)); exact HO244.out) hb); have n1_ := Aside0.mk (Kd.R_below (by (with_reducible repeat (first | apply Kd.R_alloc | apply Kd.R_drewN | apply Kd.R_drew)); exact HO248.out) hb); have n2_ := Aside0.mk (Kd.R_below (by (with_reducible repeat (first | apply Kd.R_alloc | apply Kd.R_drewN | apply Kd.R_drew)); exact HO253.out) hb); have n3_ := Aside0.mk (Kd.R_below (by (with_reducible repeat (first | apply Kd.R_alloc | apply Kd.R_drewN | apply Kd.R_drew)); exact HO258.out) hb); have n4_ := Aside0.mk (blk_below (g := gb239) (o := .cells #[.bool a3_0, .int .i64 a3_1, .int .i64 a3_2, .int .i64 a3_3] 24 (0, 0)) (by (with_reducible repeat (first | refine blk_drewN ?_ _ | refine blk_drew ?_ | refine blk_alloc ?_ _)); exact BK239.out) hb); have n5_ := Aside0.mk (below_step (by repeat (first | (with_reducible first | exact HB.out | apply below_alloc | apply pw_below_drewN | apply below_drew1 | refine below_set ?_ GE239.out) | exact HB.out)) hb); clear HO244; clear HO248; clear HO253; clear HO258; clear BK239; clear HB; have HO244 := n0_; have HO248 := n1_; have HO253 := n2_; have HO258 := n3_; have BK239 := n4_; have HB := n5_; clear n0_ n1_ n2_ n3_ n4_ n5_; (try clear hb); (try clear hb2); (try clear hk); (try clear hi)))
                go_meet
                case rel => exact ⟨_, ((!(t261 == t265) || (!(t262 == t266) || (!(t263 == t267) || (!(t264 == t268)))))), (by first | rfl | (simp; done) | (simp [*]; done)), H', ⟨by first | omega | exact Nat.le_refl _⟩, ⟨by (with_reducible repeat (first | refine blk_drewN ?_ _ | refine blk_drew ?_ | refine blk_alloc ?_ _)); exact BK239.out⟩, ⟨by repeat (first | (with_reducible first | exact HB.out | apply below_alloc | apply pw_below_drewN | apply below_drew1 | refine below_set ?_ GE239.out) | exact HB.out)⟩⟩
            · rw [if_neg c29] at H
              have c29b0 : (t250 == t255) = false := beq_eq_false_iff_ne.mpr c29
              have c29b1 : (t250 != t255) = true := bne_iff_ne.mpr c29
              have H' := Aside0.mk H
              clear H
              obtain ⟨Ao43, co43, eo43⟩ := Kd.R_slice HO244.out
              subst eo43
              obtain ⟨Ao44, co44, eo44⟩ := Kd.R_slice HO248.out
              subst eo44
              go_wp2_with (first | ((with_reducible refine gate_callee (f := 15) rfl ?_); refine goesL_ (some 64) rfl rfl Try.func15 (by kernel_rfl) rfl #[.slice Ao43 t241.length co43, .slice Ao44 t245.length co44] rfl (by (try simp only [List.map_toArray, List.map_cons, List.map_nil]); first | done | rfl | (simp only [List.length_drop, List.length_take]; rfl)) ?_; (with_reducible refine (phaetonref01_SameBytes.calls _ _ t241 _ _ t245 true _ ?side1 ?side2 ?side3 ?side4 A22.out).mono ?_); (case side1 => repeat (first | exact (Kd.R_reads' HO244.out).2.2 | (with_reducible refine Kd.C_alloc ?_ _) | (with_reducible refine Kd.C_drewN ?_ _) | (with_reducible refine Kd.C_drew ?_))); (case side2 => exact (Kd.R_reads' HO244.out).2.1); (case side3 => repeat (first | exact (Kd.R_reads' HO248.out).2.2 | (with_reducible refine Kd.C_alloc ?_ _) | (with_reducible refine Kd.C_drewN ?_ _) | (with_reducible refine Kd.C_drew ?_))); (case side4 => exact (Kd.R_reads' HO248.out).2.1); rintro e w' ⟨rfl, ⟨nd, rfl⟩⟩; refine ⟨_, rfl, ?_⟩; obtain ⟨Ao45, co45, eo45⟩ := Kd.R_slice HO253.out; subst eo45; obtain ⟨Ao46, co46, eo46⟩ := Kd.R_slice HO258.out; subst eo46) | (go_at_call 15; (with_reducible refine (phaetonref01_SameBytes.calls _ _ t249 _ _ t254 true _ ?side1 ?side2 ?side3 ?side4 A27.out).mono ?_); (case side1 => repeat (first | exact (Kd.R_reads' HO253.out).2.2 | (with_reducible refine Kd.C_alloc ?_ _) | (with_reducible refine Kd.C_drewN ?_ _) | (with_reducible refine Kd.C_drew ?_))); (case side2 => exact (Kd.R_reads' HO253.out).2.1); (case side3 => repeat (first | exact (Kd.R_reads' HO258.out).2.2 | (with_reducible refine Kd.C_alloc ?_ _) | (with_reducible refine Kd.C_drewN ?_ _) | (with_reducible refine Kd.C_drew ?_))); (case side4 => exact (Kd.R_reads' HO258.out).2.1); rintro e w' ⟨rfl, ⟨nd, rfl⟩⟩))
              go_meet
              case rel => exact ⟨_, (true), (by first | rfl | (simp; done) | (simp [*]; done)), H', ⟨by first | omega | exact Nat.le_refl _⟩, ⟨by (with_reducible repeat (first | refine blk_drewN ?_ _ | refine blk_drew ?_ | refine blk_alloc ?_ _)); exact BK239.out⟩, ⟨by repeat (first | (with_reducible first | exact HB.out | apply below_alloc | apply pw_below_drewN | apply below_drew1 | refine below_set ?_ GE239.out) | exact HB.out)⟩⟩
          · replace c28 := Bool.eq_false_iff.mpr c28
            subst c28
            have H1 : (phaetonlaw16_TrustTells.j0 k a0 l2 a4 t240 true a3_0 a3_1 a3_2 a3_3) = some r := by rw [if_neg (show ¬ (false = true) by decide)] at H; exact H
            clear H
            have H := H1
            clear H1
            have H' := Aside0.mk H
            clear H
            obtain ⟨Ao47, co47, eo47⟩ := Kd.R_slice HO244.out
            subst eo47
            obtain ⟨Ao48, co48, eo48⟩ := Kd.R_slice HO248.out
            subst eo48
            go_wp2_with (first | ((with_reducible refine gate_callee (f := 15) rfl ?_); refine goesL_ (some 64) rfl rfl Try.func15 (by kernel_rfl) rfl #[.slice Ao47 t241.length co47, .slice Ao48 t245.length co48] rfl (by (try simp only [List.map_toArray, List.map_cons, List.map_nil]); first | done | rfl | (simp only [List.length_drop, List.length_take]; rfl)) ?_; (with_reducible refine (phaetonref01_SameBytes.calls _ _ t241 _ _ t245 true _ ?side1 ?side2 ?side3 ?side4 A22.out).mono ?_); (case side1 => repeat (first | exact (Kd.R_reads' HO244.out).2.2 | (with_reducible refine Kd.C_alloc ?_ _) | (with_reducible refine Kd.C_drewN ?_ _) | (with_reducible refine Kd.C_drew ?_))); (case side2 => exact (Kd.R_reads' HO244.out).2.1); (case side3 => repeat (first | exact (Kd.R_reads' HO248.out).2.2 | (with_reducible refine Kd.C_alloc ?_ _) | (with_reducible refine Kd.C_drewN ?_ _) | (with_reducible refine Kd.C_drew ?_))); (case side4 => exact (Kd.R_reads' HO248.out).2.1); rintro e w' ⟨rfl, ⟨nd, rfl⟩⟩; refine ⟨_, rfl, ?_⟩; obtain ⟨Ao49, co49, eo49⟩ := Kd.R_slice HO253.out; subst eo49; obtain ⟨Ao50, co50, eo50⟩ := Kd.R_slice HO258.out; subst eo50) | (go_at_call 15; (with_reducible refine (phaetonref01_SameBytes.calls _ _ t249 _ _ t254 false _ ?side1 ?side2 ?side3 ?side4 A27.out).mono ?_); (case side1 => repeat (first | exact (Kd.R_reads' HO253.out).2.2 | (with_reducible refine Kd.C_alloc ?_ _) | (with_reducible refine Kd.C_drewN ?_ _) | (with_reducible refine Kd.C_drew ?_))); (case side2 => exact (Kd.R_reads' HO253.out).2.1); (case side3 => repeat (first | exact (Kd.R_reads' HO258.out).2.2 | (with_reducible refine Kd.C_alloc ?_ _) | (with_reducible refine Kd.C_drewN ?_ _) | (with_reducible refine Kd.C_drew ?_))); (case side4 => exact (Kd.R_reads' HO258.out).2.1); rintro e w' ⟨rfl, ⟨nd, rfl⟩⟩))
            go_meet
            case rel => exact ⟨_, (true), (by first | rfl | (simp; done) | (simp [*]; done)), H', ⟨by first | omega | exact Nat.le_refl _⟩, ⟨by (with_reducible repeat (first | refine blk_drewN ?_ _ | refine blk_drew ?_ | refine blk_alloc ?_ _)); exact BK239.out⟩, ⟨by repeat (first | (with_reducible first | exact HB.out | apply below_alloc | apply pw_below_drewN | apply below_drew1 | refine below_set ?_ GE239.out) | exact HB.out)⟩⟩
      · replace c23 := Bool.eq_false_iff.mpr c23
        subst c23
        have H1 : (phaetonlaw16_TrustTells.j0 k a0 l2 a4 t240 true a3_0 a3_1 a3_2 a3_3) = some r := by rw [if_neg (show ¬ (false = true) by decide)] at H; exact H
        clear H
        have H := H1
        clear H1
        have H' := Aside0.mk H
        clear H
        obtain ⟨Ao51, co51, eo51⟩ := Kd.R_slice HO244.out
        subst eo51
        obtain ⟨Ao52, co52, eo52⟩ := Kd.R_slice HO248.out
        subst eo52
        go_wp2_with (first | ((with_reducible refine gate_callee (f := 15) rfl ?_); refine goesL_ (some 64) rfl rfl Try.func15 (by kernel_rfl) rfl #[.slice Ao51 t241.length co51, .slice Ao52 t245.length co52] rfl (by (try simp only [List.map_toArray, List.map_cons, List.map_nil]); first | done | rfl | (simp only [List.length_drop, List.length_take]; rfl)) ?_; (with_reducible refine (phaetonref01_SameBytes.calls _ _ t241 _ _ t245 false _ ?side1 ?side2 ?side3 ?side4 A22.out).mono ?_); (case side1 => repeat (first | exact (Kd.R_reads' HO244.out).2.2 | (with_reducible refine Kd.C_alloc ?_ _) | (with_reducible refine Kd.C_drewN ?_ _) | (with_reducible refine Kd.C_drew ?_))); (case side2 => exact (Kd.R_reads' HO244.out).2.1); (case side3 => repeat (first | exact (Kd.R_reads' HO248.out).2.2 | (with_reducible refine Kd.C_alloc ?_ _) | (with_reducible refine Kd.C_drewN ?_ _) | (with_reducible refine Kd.C_drew ?_))); (case side4 => exact (Kd.R_reads' HO248.out).2.1); rintro e w' ⟨rfl, ⟨nd, rfl⟩⟩; refine ⟨_, rfl, ?_⟩))
        go_meet
        case rel => exact ⟨_, (true), (by first | rfl | (simp; done) | (simp [*]; done)), H', ⟨by first | omega | exact Nat.le_refl _⟩, ⟨by (with_reducible repeat (first | refine blk_drewN ?_ _ | refine blk_drew ?_ | refine blk_alloc ?_ _)); exact BK239.out⟩, ⟨by repeat (first | (with_reducible first | exact HB.out | apply below_alloc | apply pw_below_drewN | apply below_drew1 | refine below_set ?_ GE239.out) | exact HB.out)⟩⟩
    case rest =>
      clear HC15
      try clear c1
      try clear c2
      try clear p2
      try clear c3
      try clear c7
      try clear c7b0
      try clear c7b1
      try clear c8
      try clear c10
      try clear c11
      try clear c12
      try clear c13
      try clear c14
      try clear c15
      try clear c23
      try clear c24
      try clear c24b0
      try clear c24b1
      try clear c24b2
      try clear c28
      try clear c29
      try clear c29b0
      try clear c29b1
      try clear c30
      try clear c30b0
      try clear c30b1
      try clear c30b2
      obtain ⟨kq, x91_14, rfl, HA, HJ14, BK239, HB⟩ := hcut
      cases kq with
      | zero => exact absurd HA.out (by simp [phaetonlaw16_TrustTells.j0])
      | succ kj14 =>
        have H := HA.out
        clear HA
        simp only [phaetonlaw16_TrustTells.j0] at H
        by_cases c53 : x91_14 = true
        · subst c53
          have H1 : (none) = some r := by rw [if_pos rfl] at H; exact H
          clear H
          have H := H1
          clear H1
          exact absurd H (by simp)
        · replace c53 := Bool.eq_false_iff.mpr c53
          subst c53
          have H1 : ((phaetonref16_Right.f a3_0 a3_1 a3_2 a3_3).bind fun t269 => (if t269 = true then ((trust_Check.f a3_0 a3_1 a3_2 a3_3 a0 l2 (wrap64 ((Int.tmod (wrap64 (a4)) 14) + 1))).bind fun bt270 => ((phaetonref16_Check.f kj14 a3_0 a3_1 a3_2 a3_3 a0 l2 (wrap64 ((Int.tmod (wrap64 (a4)) 14) + 1))).bind fun bt279 => (if t240 = true then (if (bt270.1 == bt279.1 && (bt270.2.1 == bt279.2.1 && (bt270.2.2.1 == bt279.2.2.1 && (bt270.2.2.2.1 == bt279.2.2.2.1)))) = true then ((phaetonref01_SameBytes.f bt270.2.2.2.2.1 bt279.2.2.2.2.1).bind fun t288 => (if t288 = true then (if bt270.2.2.2.2.2 = bt279.2.2.2.2.2 then (some true) else (none)) else (none))) else (none)) else (none)))) else (if t240 = true then (some true) else (none)))) = some r := by rw [if_neg (show ¬ (false = true) by decide)] at H; exact H
          clear H
          have H := H1
          clear H1
          replace H := Option.bind_eq_some_iff.mp H
          obtain ⟨t269, A540, H⟩ := H
          replace H : (if t269 = true then ((trust_Check.f a3_0 a3_1 a3_2 a3_3 a0 l2 (wrap64 ((Int.tmod (wrap64 (a4)) 14) + 1))).bind fun bt270 => ((phaetonref16_Check.f kj14 a3_0 a3_1 a3_2 a3_3 a0 l2 (wrap64 ((Int.tmod (wrap64 (a4)) 14) + 1))).bind fun bt279 => (if t240 = true then (if (bt270.1 == bt279.1 && (bt270.2.1 == bt279.2.1 && (bt270.2.2.1 == bt279.2.2.1 && (bt270.2.2.2.1 == bt279.2.2.2.1)))) = true then ((phaetonref01_SameBytes.f bt270.2.2.2.2.1 bt279.2.2.2.2.1).bind fun t288 => (if t288 = true then (if bt270.2.2.2.2.2 = bt279.2.2.2.2.2 then (some true) else (none)) else (none))) else (none)) else (none)))) else (if t240 = true then (some true) else (none))) = some r := H
          have A54 := Aside0.mk A540
          clear A540
          by_cases c55 : t269 = true
          · subst c55
            have H1 : ((trust_Check.f a3_0 a3_1 a3_2 a3_3 a0 l2 (wrap64 ((Int.tmod (wrap64 (a4)) 14) + 1))).bind fun bt270 => ((phaetonref16_Check.f kj14 a3_0 a3_1 a3_2 a3_3 a0 l2 (wrap64 ((Int.tmod (wrap64 (a4)) 14) + 1))).bind fun bt279 => (if t240 = true then (if (bt270.1 == bt279.1 && (bt270.2.1 == bt279.2.1 && (bt270.2.2.1 == bt279.2.2.1 && (bt270.2.2.2.1 == bt279.2.2.2.1)))) = true then ((phaetonref01_SameBytes.f bt270.2.2.2.2.1 bt279.2.2.2.2.1).bind fun t288 => (if t288 = true then (if bt270.2.2.2.2.2 = bt279.2.2.2.2.2 then (some true) else (none)) else (none))) else (none)) else (none)))) = some r := by rw [if_pos rfl] at H; exact H
            clear H
            have H := H1
            clear H1
            replace H := Option.bind_eq_some_iff.mp H
            obtain ⟨⟨t270, t271, t272, t273, t274, t277⟩, A560, H⟩ := H
            replace H : ((phaetonref16_Check.f kj14 a3_0 a3_1 a3_2 a3_3 a0 l2 (wrap64 ((Int.tmod (wrap64 (a4)) 14) + 1))).bind fun bt279 => (if t240 = true then (if (t270 == bt279.1 && (t271 == bt279.2.1 && (t272 == bt279.2.2.1 && (t273 == bt279.2.2.2.1)))) = true then ((phaetonref01_SameBytes.f t274 bt279.2.2.2.2.1).bind fun t288 => (if t288 = true then (if t277 = bt279.2.2.2.2.2 then (some true) else (none)) else (none))) else (none)) else (none))) = some r := H
            have A56 := Aside0.mk A560
            clear A560
            replace H := Option.bind_eq_some_iff.mp H
            obtain ⟨⟨t279, t280, t281, t282, t283, t286⟩, A570, H⟩ := H
            replace H : (if t240 = true then (if (t270 == t279 && (t271 == t280 && (t272 == t281 && (t273 == t282)))) = true then ((phaetonref01_SameBytes.f t274 t283).bind fun t288 => (if t288 = true then (if t277 = t286 then (some true) else (none)) else (none))) else (none)) else (none)) = some r := H
            have A57 := Aside0.mk A570
            clear A570
            by_cases c58 : t240 = true
            · subst c58
              have H1 : (if (t270 == t279 && (t271 == t280 && (t272 == t281 && (t273 == t282)))) = true then ((phaetonref01_SameBytes.f t274 t283).bind fun t288 => (if t288 = true then (if t277 = t286 then (some true) else (none)) else (none))) else (none)) = some r := by rw [if_pos rfl] at H; exact H
              clear H
              have H := H1
              clear H1
              by_cases c59 : (t270 == t279 && (t271 == t280 && (t272 == t281 && (t273 == t282)))) = true
              · rw [if_pos c59] at H
                have c59b0 : (t270 == t279 && (t271 == t280 && (t272 == t281 && (t273 == t282)))) = true := c59
                (try (have c59b1 : decide (t270 = t279 && (t271 == t280 && (t272 == t281 && (t273 == t282)))) = true := by simpa using c59))
                (try (have c59b2 : (t270 == t279 && (t271 == t280 && (t272 == t281 && (t273 == t282)))) = true := by simpa using c59))
                clear c59
                replace H := Option.bind_eq_some_iff.mp H
                obtain ⟨t288, A600, H⟩ := H
                replace H : (if t288 = true then (if t277 = t286 then (some true) else (none)) else (none)) = some r := H
                have A60 := Aside0.mk A600
                clear A600
                by_cases c61 : t288 = true
                · subst c61
                  have H1 : (if t277 = t286 then (some true) else (none)) = some r := by rw [if_pos rfl] at H; exact H
                  clear H
                  have H := H1
                  clear H1
                  by_cases c62 : t277 = t286
                  · rw [if_pos c62] at H
                    have c62b0 : (t277 == t286) = true := beq_iff_eq.mpr c62
                    have c62b1 : (t277 != t286) = false := bne_eq_false_iff_eq.mpr c62
                    clear c62
                    obtain rfl := Option.some.inj H
                    have hcz63_0 : wc.cell? ⟨gb239, 0, none⟩ = some (.bool a3_0) := (blk_cell BK239.out 0).trans rfl
                    have hcz63_1 : wc.cell? ⟨gb239, 1, none⟩ = some (.int .i64 a3_1) := (blk_cell BK239.out 1).trans rfl
                    have hcz63_2 : wc.cell? ⟨gb239, 2, none⟩ = some (.int .i64 a3_2) := (blk_cell BK239.out 2).trans rfl
                    have hcz63_3 : wc.cell? ⟨gb239, 3, none⟩ = some (.int .i64 a3_3) := (blk_cell BK239.out 3).trans rfl
                    have hfz63_0 := blk_frozen BK239.out 0
                    have hfz63_1 := blk_frozen BK239.out 1
                    have hfz63_2 := blk_frozen BK239.out 2
                    have hfz63_3 := blk_frozen BK239.out 3
                    go_wp2_with (first | ((with_reducible refine gate_store (t := 24) (p := 26) rfl ?_); refine HW.store_box rfl rfl 24 _ _ rfl rfl rfl BK287.out rfl (by kernel_rfl) (by intro q hq; simp only [List.mem_cons, List.not_mem_nil, or_false] at hq; rcases hq with rfl | rfl | rfl | rfl <;> rfl) ?_; intro w1_ hw1_; simp only [List.toList_toArray, World.setCells, Nat.zero_add, Nat.reduceAdd] at hw1_; subst hw1_) | ((with_reducible refine gate_store (t := 24) (p := 23) rfl ?_); refine HW.store_box rfl rfl 24 _ _ rfl rfl rfl BK278.out rfl (by kernel_rfl) (by intro q hq; simp only [List.mem_cons, List.not_mem_nil, or_false] at hq; rcases hq with rfl | rfl | rfl | rfl <;> rfl) ?_; intro w1_ hw1_; simp only [List.toList_toArray, World.setCells, Nat.zero_add, Nat.reduceAdd] at hw1_; subst hw1_) | ((with_reducible refine gate_store (t := 24) (p := 8) rfl ?_); refine HW.store_box rfl rfl 24 _ _ rfl rfl rfl BK239.out rfl (by kernel_rfl) (by intro q hq; simp only [List.mem_cons, List.not_mem_nil, or_false] at hq; rcases hq with rfl | rfl | rfl | rfl <;> rfl) ?_; intro w1_ hw1_; simp only [List.toList_toArray, World.setCells, Nat.zero_add, Nat.reduceAdd] at hw1_; subst hw1_) | ((with_reducible refine gate_callee (f := 18) rfl ?_); refine goesL_ (some 93) rfl rfl Try.func18 (by kernel_rfl) rfl #[.agg #[.bool a3_0, .int .i64 a3_1, .int .i64 a3_2, .int .i64 a3_3]] rfl (by (try simp only [List.map_toArray, List.map_cons, List.map_nil]); first | done | rfl | (simp only [List.length_drop, List.length_take]; rfl)) ?_; (with_reducible refine (phaetonref16_Right.calls a3_0 a3_1 a3_2 a3_3 true _ A54.out).mono ?_); rintro e w64 ⟨rfl, hb⟩; refine ⟨_, rfl, ?_⟩; have n0_ := Aside0.mk (blk_below (g := gb239) (o := .cells #[.bool a3_0, .int .i64 a3_1, .int .i64 a3_2, .int .i64 a3_3] 24 (0, 0)) (by (with_reducible repeat (first | refine blk_drewN ?_ _ | refine blk_drew ?_ | refine blk_alloc ?_ _)); exact BK239.out) hb); have n1_ := Aside0.mk (below_step (by repeat (first | (with_reducible first | exact HB.out | apply below_alloc | apply pw_below_drewN | apply below_drew1 | refine below_set ?_ GE239.out) | exact HB.out)) hb); clear BK239; clear HB; have BK239 := n0_; have HB := n1_; clear n0_ n1_; (try clear hb); (try clear hb2); (try clear hk); (try clear hi); have hcz65_0 : w64.cell? ⟨gb239, 0, none⟩ = some (.bool a3_0) := (blk_cell BK239.out 0).trans rfl; have hcz65_1 : w64.cell? ⟨gb239, 1, none⟩ = some (.int .i64 a3_1) := (blk_cell BK239.out 1).trans rfl; have hcz65_2 : w64.cell? ⟨gb239, 2, none⟩ = some (.int .i64 a3_2) := (blk_cell BK239.out 2).trans rfl; have hcz65_3 : w64.cell? ⟨gb239, 3, none⟩ = some (.int .i64 a3_3) := (blk_cell BK239.out 3).trans rfl; have hfz65_0 := blk_frozen BK239.out 0; have hfz65_1 := blk_frozen BK239.out 1; have hfz65_2 := blk_frozen BK239.out 2; have hfz65_3 := blk_frozen BK239.out 3) | ((with_reducible refine gate_callee (f := 19) rfl ?_); refine goesL_ (some 105) rfl rfl Try.func19 (by kernel_rfl) rfl #[.agg #[.bool a3_0, .int .i64 a3_1, .int .i64 a3_2, .int .i64 a3_3], .int .i64 a0, .slice A2 l2.length c2, .int .i64 (wrap64 ((Int.tmod (wrap64 (a4)) 14) + 1))] rfl (by (try simp only [List.map_toArray, List.map_cons, List.map_nil]); first | done | rfl | (simp only [List.length_drop, List.length_take]; rfl)) ?_; (with_reducible refine (trust_Check.calls a3_0 a3_1 a3_2 a3_3 a0 _ _ l2 (wrap64 ((Int.tmod (wrap64 (a4)) 14) + 1)) t270 t271 t272 t273 t274 t277 _ ?side1 ?side2 A56.out).mono ?_); (case side1 => repeat (first | exact (Kd.C_below HR2.out HB.out) | (with_reducible refine Kd.C_alloc ?_ _) | (with_reducible refine Kd.C_drewN ?_ _) | (with_reducible refine Kd.C_drew ?_))); (case side2 => exact HC2.out); rintro e w66 ⟨v275, rfl, ho0, hb⟩; refine ⟨_, rfl, ?_⟩; have n0_ := Aside0.mk (Kd.R_lower ho0 (below_size (by repeat (first | (with_reducible first | exact HB.out | apply below_alloc | apply pw_below_drewN | apply below_drew1 | refine below_set ?_ GE239.out) | exact HB.out)))); have n1_ := Aside0.mk (blk_below (g := gb239) (o := .cells #[.bool a3_0, .int .i64 a3_1, .int .i64 a3_2, .int .i64 a3_3] 24 (0, 0)) (by (with_reducible repeat (first | refine blk_drewN ?_ _ | refine blk_drew ?_ | refine blk_alloc ?_ _)); exact BK239.out) hb); have n2_ := Aside0.mk (below_step (by repeat (first | (with_reducible first | exact HB.out | apply below_alloc | apply pw_below_drewN | apply below_drew1 | refine below_set ?_ GE239.out) | exact HB.out)) hb); clear BK239; clear HB; have HO276 := n0_; have BK239 := n1_; have HB := n2_; clear n0_ n1_ n2_; (try clear hb); (try clear hb2); (try clear hk); (try clear hi); (try clear ho0)) | ((with_reducible refine gate_dst (N := 23) rfl ?_); refine box_event ?hg (N := 23) ?hd (cs := #[.bool false, .int .i64 0, .int .i64 0, .int .i64 0]) (t := 24) ?hr ?_; (case hd => rfl); (case hg => rfl); (case hr => first | (go_simp; done) | (go_simp; rfl)); intro gb278 hg w67 hbox hb; have n0_ := Aside0.mk (Kd.R_below (by (with_reducible repeat (first | apply Kd.R_alloc | apply Kd.R_drewN | apply Kd.R_drew)); exact HO276.out) hb); have n1_ := Aside0.mk (blk_below (g := gb239) (o := .cells #[.bool a3_0, .int .i64 a3_1, .int .i64 a3_2, .int .i64 a3_3] 24 (0, 0)) (by (with_reducible repeat (first | refine blk_drewN ?_ _ | refine blk_drew ?_ | refine blk_alloc ?_ _)); exact BK239.out) hb); have n2_ := Aside0.mk (below_step (by repeat (first | (with_reducible first | exact HB.out | apply below_alloc | apply pw_below_drewN | apply below_drew1 | refine below_set ?_ GE239.out) | exact HB.out)) hb); have n3_ := Aside0.mk (hbox); have n4_ := Aside0.mk ((by rw [hg]; exact (below_size (by repeat (first | (with_reducible first | exact HB.out | apply below_alloc | apply pw_below_drewN | apply below_drew1 | refine below_set ?_ GE239.out) | exact HB.out))) : w.heap.size ≤ gb278)); have n5_ := Aside0.mk ((by rw [hg]; exact (below_size (by repeat (first | (with_reducible first | exact HB.out | apply below_alloc | apply pw_below_drewN | apply below_drew1 | refine below_set ?_ GE239.out) | exact HB.out))) : w.heap.size ≤ gb278)); have n6_ := Aside0.mk ((by rw [hg]; exact Nat.ne_of_lt (blk_lt (g := gb239) (o := .cells #[.bool a3_0, .int .i64 a3_1, .int .i64 a3_2, .int .i64 a3_3] 24 (0, 0)) (by (with_reducible repeat (first | refine blk_drewN ?_ _ | refine blk_drew ?_ | refine blk_alloc ?_ _)); exact BK239.out)) : gb239 ≠ gb278)); have n7_ := Aside0.mk ((by rw [hg]; exact Nat.ne_of_gt (blk_lt (g := gb239) (o := .cells #[.bool a3_0, .int .i64 a3_1, .int .i64 a3_2, .int .i64 a3_3] 24 (0, 0)) (by (with_reducible repeat (first | refine blk_drewN ?_ _ | refine blk_drew ?_ | refine blk_alloc ?_ _)); exact BK239.out)) : gb278 ≠ gb239)); clear HO276; clear BK239; clear HB; have HO276 := n0_; have BK239 := n1_; have HB := n2_; have BK278 := n3_; have GW278 := n4_; have GE278 := n5_; have NB239_278 := n6_; have NB278_239 := n7_; clear n0_ n1_ n2_ n3_ n4_ n5_ n6_ n7_; clear hb hbox hg; have hnb68 := NB278_239.out; have hnc68 := NB239_278.out; have hcz69_0 : w67.cell? ⟨gb278, 0, none⟩ = some (.bool false) := (blk_cell BK278.out 0).trans rfl; have hcz69_1 : w67.cell? ⟨gb278, 1, none⟩ = some (.int .i64 0) := (blk_cell BK278.out 1).trans rfl; have hcz69_2 : w67.cell? ⟨gb278, 2, none⟩ = some (.int .i64 0) := (blk_cell BK278.out 2).trans rfl; have hcz69_3 : w67.cell? ⟨gb278, 3, none⟩ = some (.int .i64 0) := (blk_cell BK278.out 3).trans rfl; have hfz69_0 := blk_frozen BK278.out 0; have hfz69_1 := blk_frozen BK278.out 1; have hfz69_2 := blk_frozen BK278.out 2; have hfz69_3 := blk_frozen BK278.out 3; have hcz70_0 : w67.cell? ⟨gb239, 0, none⟩ = some (.bool a3_0) := (blk_cell BK239.out 0).trans rfl; have hcz70_1 : w67.cell? ⟨gb239, 1, none⟩ = some (.int .i64 a3_1) := (blk_cell BK239.out 1).trans rfl; have hcz70_2 : w67.cell? ⟨gb239, 2, none⟩ = some (.int .i64 a3_2) := (blk_cell BK239.out 2).trans rfl; have hcz70_3 : w67.cell? ⟨gb239, 3, none⟩ = some (.int .i64 a3_3) := (blk_cell BK239.out 3).trans rfl; have hfz70_0 := blk_frozen BK239.out 0; have hfz70_1 := blk_frozen BK239.out 1; have hfz70_2 := blk_frozen BK239.out 2; have hfz70_3 := blk_frozen BK239.out 3) | ((with_reducible refine gate_callee (f := 20) rfl ?_); refine goesL_ (some 114) rfl rfl Try.func20 (by kernel_rfl) rfl #[.agg #[.bool a3_0, .int .i64 a3_1, .int .i64 a3_2, .int .i64 a3_3], .int .i64 a0, .slice A2 l2.length c2, .int .i64 (wrap64 ((Int.tmod (wrap64 (a4)) 14) + 1))] rfl (by (try simp only [List.map_toArray, List.map_cons, List.map_nil]); first | done | rfl | (simp only [List.length_drop, List.length_take]; rfl)) ?_; (with_reducible refine (phaetonref16_Check.calls kj14 a3_0 a3_1 a3_2 a3_3 a0 _ _ l2 (wrap64 ((Int.tmod (wrap64 (a4)) 14) + 1)) t279 t280 t281 t282 t283 t286 _ ?side1 ?side2 A57.out).mono ?_); (case side1 => exact Kd.C_below HR2.out (by repeat (first | (with_reducible first | exact HB.out | apply below_alloc | apply pw_below_drewN | apply below_drew1 | refine below_set ?_ GE239.out | refine below_set ?_ GE278.out) | exact HB.out))); (case side2 => exact HC2.out); rintro e w71 ⟨v284, rfl, ho0, hb⟩; refine ⟨_, rfl, ?_⟩; have n0_ := Aside0.mk (Kd.R_elder' (by (with_reducible repeat (first | apply Kd.R_alloc | apply Kd.R_drewN | apply Kd.R_drew)); exact (Kd.R_mono (Kd.R_far (p := ⟨gb278, 3, none⟩) (Kd.R_far (p := ⟨gb278, 2, none⟩) (Kd.R_far (p := ⟨gb278, 1, none⟩) (Kd.R_far (p := ⟨gb278, 0, none⟩) (Kd.R_types HO276.out BK278.out (by decide)) (fun _ hk => hk.2) (.bool t270)) (fun _ hk => hk.2) (.int .i64 t271)) (fun _ hk => hk.2) (.int .i64 t272)) (fun _ hk => hk.2) (.int .i64 t273)) (fun _ h_ => h_.1))) (Kd.R_base ho0) hb); have n1_ := Aside0.mk (Kd.R_lower (Kd.R_new' ho0 (Kd.R_lt (by (with_reducible repeat (first | apply Kd.R_alloc | apply Kd.R_drewN | apply Kd.R_drew)); exact (Kd.R_mono (Kd.R_far (p := ⟨gb278, 3, none⟩) (Kd.R_far (p := ⟨gb278, 2, none⟩) (Kd.R_far (p := ⟨gb278, 1, none⟩) (Kd.R_far (p := ⟨gb278, 0, none⟩) (Kd.R_types HO276.out BK278.out (by decide)) (fun _ hk => hk.2) (.bool t270)) (fun _ hk => hk.2) (.int .i64 t271)) (fun _ hk => hk.2) (.int .i64 t272)) (fun _ hk => hk.2) (.int .i64 t273)) (fun _ h_ => h_.1))))) (below_size (by repeat (first | (with_reducible first | exact HB.out | apply below_alloc | apply pw_below_drewN | apply below_drew1 | refine below_set ?_ GE239.out | refine below_set ?_ GE278.out) | exact HB.out)))); have n2_ := Aside0.mk (blk_below (g := gb239) (o := .cells #[.bool a3_0, .int .i64 a3_1, .int .i64 a3_2, .int .i64 a3_3] 24 (0, 0)) (by (with_reducible repeat (first | refine blk_drewN ?_ _ | refine blk_drew ?_ | refine blk_alloc ?_ _)); refine blk_far ?_ NB239_278.out _; (with_reducible repeat (first | refine blk_drewN ?_ _ | refine blk_drew ?_ | refine blk_alloc ?_ _)); refine blk_far ?_ NB239_278.out _; (with_reducible repeat (first | refine blk_drewN ?_ _ | refine blk_drew ?_ | refine blk_alloc ?_ _)); refine blk_far ?_ NB239_278.out _; (with_reducible repeat (first | refine blk_drewN ?_ _ | refine blk_drew ?_ | refine blk_alloc ?_ _)); refine blk_far ?_ NB239_278.out _; (with_reducible repeat (first | refine blk_drewN ?_ _ | refine blk_drew ?_ | refine blk_alloc ?_ _)); exact BK239.out) hb); have n3_ := Aside0.mk (blk_below (g := gb278) (o := .cells #[.bool t270, .int .i64 t271, .int .i64 t272, .int .i64 t273] 24 (0, 0)) (by (with_reducible repeat (first | refine blk_drewN ?_ _ | refine blk_drew ?_ | refine blk_alloc ?_ _)); refine blk_put (cs := #[.bool t270, .int .i64 t271, .int .i64 t272, .int .i64 0]) ?_ 3 _ rfl; (with_reducible repeat (first | refine blk_drewN ?_ _ | refine blk_drew ?_ | refine blk_alloc ?_ _)); refine blk_put (cs := #[.bool t270, .int .i64 t271, .int .i64 0, .int .i64 0]) ?_ 2 _ rfl; (with_reducible repeat (first | refine blk_drewN ?_ _ | refine blk_drew ?_ | refine blk_alloc ?_ _)); refine blk_put (cs := #[.bool t270, .int .i64 0, .int .i64 0, .int .i64 0]) ?_ 1 _ rfl; (with_reducible repeat (first | refine blk_drewN ?_ _ | refine blk_drew ?_ | refine blk_alloc ?_ _)); refine blk_put (cs := #[.bool false, .int .i64 0, .int .i64 0, .int .i64 0]) ?_ 0 _ rfl; (with_reducible repeat (first | refine blk_drewN ?_ _ | refine blk_drew ?_ | refine blk_alloc ?_ _)); exact BK278.out) hb); have n4_ := Aside0.mk (below_step (by repeat (first | (with_reducible first | exact HB.out | apply below_alloc | apply pw_below_drewN | apply below_drew1 | refine below_set ?_ GE239.out | refine below_set ?_ GE278.out) | exact HB.out)) hb); clear HO276; clear BK239; clear BK278; clear HB; have HO276 := n0_; have HO285 := n1_; have BK239 := n2_; have BK278 := n3_; have HB := n4_; clear n0_ n1_ n2_ n3_ n4_; (try clear hb); (try clear hb2); (try clear hk); (try clear hi); (try clear ho0)) | ((with_reducible refine gate_dst (N := 26) rfl ?_); refine box_event ?hg (N := 26) ?hd (cs := #[.bool false, .int .i64 0, .int .i64 0, .int .i64 0]) (t := 24) ?hr ?_; (case hd => rfl); (case hg => rfl); (case hr => first | (go_simp; done) | (go_simp; rfl)); intro gb287 hg w72 hbox hb; have n0_ := Aside0.mk (Kd.R_below (by (with_reducible repeat (first | apply Kd.R_alloc | apply Kd.R_drewN | apply Kd.R_drew)); exact HO276.out) hb); have n1_ := Aside0.mk (Kd.R_below (by (with_reducible repeat (first | apply Kd.R_alloc | apply Kd.R_drewN | apply Kd.R_drew)); exact HO285.out) hb); have n2_ := Aside0.mk (blk_below (g := gb239) (o := .cells #[.bool a3_0, .int .i64 a3_1, .int .i64 a3_2, .int .i64 a3_3] 24 (0, 0)) (by (with_reducible repeat (first | refine blk_drewN ?_ _ | refine blk_drew ?_ | refine blk_alloc ?_ _)); exact BK239.out) hb); have n3_ := Aside0.mk (blk_below (g := gb278) (o := .cells #[.bool t270, .int .i64 t271, .int .i64 t272, .int .i64 t273] 24 (0, 0)) (by (with_reducible repeat (first | refine blk_drewN ?_ _ | refine blk_drew ?_ | refine blk_alloc ?_ _)); exact BK278.out) hb); have n4_ := Aside0.mk (below_step (by repeat (first | (with_reducible first | exact HB.out | apply below_alloc | apply pw_below_drewN | apply below_drew1 | refine below_set ?_ GE239.out | refine below_set ?_ GE278.out) | exact HB.out)) hb); have n5_ := Aside0.mk (hbox); have n6_ := Aside0.mk ((by rw [hg]; exact (below_size (by repeat (first | (with_reducible first | exact HB.out | apply below_alloc | apply pw_below_drewN | apply below_drew1 | refine below_set ?_ GE239.out | refine below_set ?_ GE278.out) | exact HB.out))) : w.heap.size ≤ gb287)); have n7_ := Aside0.mk ((by rw [hg]; exact (below_size (by repeat (first | (with_reducible first | exact HB.out | apply below_alloc | apply pw_below_drewN | apply below_drew1 | refine below_set ?_ GE239.out | refine below_set ?_ GE278.out) | exact HB.out))) : w.heap.size ≤ gb287)); have n8_ := Aside0.mk ((by rw [hg]; exact Nat.ne_of_lt (blk_lt (g := gb239) (o := .cells #[.bool a3_0, .int .i64 a3_1, .int .i64 a3_2, .int .i64 a3_3] 24 (0, 0)) (by (with_reducible repeat (first | refine blk_drewN ?_ _ | refine blk_drew ?_ | refine blk_alloc ?_ _)); exact BK239.out)) : gb239 ≠ gb287)); have n9_ := Aside0.mk ((by rw [hg]; exact Nat.ne_of_gt (blk_lt (g := gb239) (o := .cells #[.bool a3_0, .int .i64 a3_1, .int .i64 a3_2, .int .i64 a3_3] 24 (0, 0)) (by (with_reducible repeat (first | refine blk_drewN ?_ _ | refine blk_drew ?_ | refine blk_alloc ?_ _)); exact BK239.out)) : gb287 ≠ gb239)); have n10_ := Aside0.mk ((by rw [hg]; exact Nat.ne_of_lt (blk_lt (g := gb278) (o := .cells #[.bool t270, .int .i64 t271, .int .i64 t272, .int .i64 t273] 24 (0, 0)) (by (with_reducible repeat (first | refine blk_drewN ?_ _ | refine blk_drew ?_ | refine blk_alloc ?_ _)); exact BK278.out)) : gb278 ≠ gb287)); have n11_ := Aside0.mk ((by rw [hg]; exact Nat.ne_of_gt (blk_lt (g := gb278) (o := .cells #[.bool t270, .int .i64 t271, .int .i64 t272, .int .i64 t273] 24 (0, 0)) (by (with_reducible repeat (first | refine blk_drewN ?_ _ | refine blk_drew ?_ | refine blk_alloc ?_ _)); exact BK278.out)) : gb287 ≠ gb278)); clear HO276; clear HO285; clear BK239; clear BK278; clear HB; have HO276 := n0_; have HO285 := n1_; have BK239 := n2_; have BK278 := n3_; have HB := n4_; have BK287 := n5_; have GW287 := n6_; have GE287 := n7_; have NB239_287 := n8_; have NB287_239 := n9_; have NB278_287 := n10_; have NB287_278 := n11_; clear n0_ n1_ n2_ n3_ n4_ n5_ n6_ n7_ n8_ n9_ n10_ n11_; clear hb hbox hg; have hnb73 := NB287_239.out; have hnc73 := NB239_287.out; have hnb74 := NB287_278.out; have hnc74 := NB278_287.out; have hcz75_0 : w72.cell? ⟨gb287, 0, none⟩ = some (.bool false) := (blk_cell BK287.out 0).trans rfl; have hcz75_1 : w72.cell? ⟨gb287, 1, none⟩ = some (.int .i64 0) := (blk_cell BK287.out 1).trans rfl; have hcz75_2 : w72.cell? ⟨gb287, 2, none⟩ = some (.int .i64 0) := (blk_cell BK287.out 2).trans rfl; have hcz75_3 : w72.cell? ⟨gb287, 3, none⟩ = some (.int .i64 0) := (blk_cell BK287.out 3).trans rfl; have hfz75_0 := blk_frozen BK287.out 0; have hfz75_1 := blk_frozen BK287.out 1; have hfz75_2 := blk_frozen BK287.out 2; have hfz75_3 := blk_frozen BK287.out 3; have hcz76_0 : w72.cell? ⟨gb278, 0, none⟩ = some (.bool t270) := (blk_cell BK278.out 0).trans rfl; have hcz76_1 : w72.cell? ⟨gb278, 1, none⟩ = some (.int .i64 t271) := (blk_cell BK278.out 1).trans rfl; have hcz76_2 : w72.cell? ⟨gb278, 2, none⟩ = some (.int .i64 t272) := (blk_cell BK278.out 2).trans rfl; have hcz76_3 : w72.cell? ⟨gb278, 3, none⟩ = some (.int .i64 t273) := (blk_cell BK278.out 3).trans rfl; have hfz76_0 := blk_frozen BK278.out 0; have hfz76_1 := blk_frozen BK278.out 1; have hfz76_2 := blk_frozen BK278.out 2; have hfz76_3 := blk_frozen BK278.out 3; obtain ⟨Ao77, co77, eo77⟩ := Kd.R_slice HO276.out; subst eo77; obtain ⟨Ao78, co78, eo78⟩ := Kd.R_slice HO285.out; subst eo78) | (go_at_call 15; (with_reducible refine (phaetonref01_SameBytes.calls _ _ t274 _ _ t283 true _ ?side1 ?side2 ?side3 ?side4 A60.out).mono ?_); (case side1 => refine (Kd.R_reads' (e := 5) (base := w.heap.size) (ok := fun k_ => (True ∧ some k_ ≠ (.slice Ao78 t283.length co78 : Value).ownBlock)) (n := t274.length) (c := co77) ?_).2.2; exact (by (with_reducible repeat (first | apply Kd.R_alloc | apply Kd.R_drewN | apply Kd.R_drew)); exact (Kd.R_mono (Kd.R_far (p := ⟨gb287, 3, none⟩) (Kd.R_far (p := ⟨gb287, 2, none⟩) (Kd.R_far (p := ⟨gb287, 1, none⟩) (Kd.R_far (p := ⟨gb287, 0, none⟩) (Kd.R_types HO276.out BK287.out (by decide)) (fun _ hk => hk.2) (.bool t279)) (fun _ hk => hk.2) (.int .i64 t280)) (fun _ hk => hk.2) (.int .i64 t281)) (fun _ hk => hk.2) (.int .i64 t282)) (fun _ h_ => h_.1)))); (case side2 => exact (Kd.R_reads' HO276.out).2.1); (case side3 => refine (Kd.R_reads' (e := 5) (base := w.heap.size) (ok := fun k_ => (True ∧ some k_ ≠ (.slice Ao77 t274.length co77 : Value).ownBlock)) (n := t283.length) (c := co78) ?_).2.2; exact (by (with_reducible repeat (first | apply Kd.R_alloc | apply Kd.R_drewN | apply Kd.R_drew)); exact (Kd.R_mono (Kd.R_far (p := ⟨gb287, 3, none⟩) (Kd.R_far (p := ⟨gb287, 2, none⟩) (Kd.R_far (p := ⟨gb287, 1, none⟩) (Kd.R_far (p := ⟨gb287, 0, none⟩) (Kd.R_types HO285.out BK287.out (by decide)) (fun _ hk => hk.2) (.bool t279)) (fun _ hk => hk.2) (.int .i64 t280)) (fun _ hk => hk.2) (.int .i64 t281)) (fun _ hk => hk.2) (.int .i64 t282)) (fun _ h_ => h_.1)))); (case side4 => exact (Kd.R_reads' HO285.out).2.1); rintro e w' ⟨rfl, ⟨nd, rfl⟩⟩))
                    go_ret
                    exact ⟨by first | rfl | (simp [errW_none, errW_some] <;> rfl) | (simp [*, errW_none, errW_some] <;> rfl), by repeat (first | (with_reducible first | exact HB.out | apply below_alloc | apply pw_below_drewN | apply below_drew1 | refine below_set ?_ GE239.out | refine below_set ?_ GE278.out | refine below_set ?_ GE287.out) | exact HB.out)⟩
                  · rw [if_neg c62] at H
                    exact absurd H (by simp)
                · replace c61 := Bool.eq_false_iff.mpr c61
                  subst c61
                  have H1 : (none) = some r := by rw [if_neg (show ¬ (false = true) by decide)] at H; exact H
                  clear H
                  have H := H1
                  clear H1
                  exact absurd H (by simp)
              · rw [if_neg c59] at H
                exact absurd H (by simp)
            · replace c58 := Bool.eq_false_iff.mpr c58
              subst c58
              have H1 : (none) = some r := by rw [if_neg (show ¬ (false = true) by decide)] at H; exact H
              clear H
              have H := H1
              clear H1
              exact absurd H (by simp)
          · replace c55 := Bool.eq_false_iff.mpr c55
            subst c55
            have H1 : (if t240 = true then (some true) else (none)) = some r := by rw [if_neg (show ¬ (false = true) by decide)] at H; exact H
            clear H
            have H := H1
            clear H1
            by_cases c79 : t240 = true
            · subst c79
              have H1 : (some true) = some r := by rw [if_pos rfl] at H; exact H
              clear H
              have H := H1
              clear H1
              obtain rfl := Option.some.inj H
              have hcz80_0 : wc.cell? ⟨gb239, 0, none⟩ = some (.bool a3_0) := (blk_cell BK239.out 0).trans rfl
              have hcz80_1 : wc.cell? ⟨gb239, 1, none⟩ = some (.int .i64 a3_1) := (blk_cell BK239.out 1).trans rfl
              have hcz80_2 : wc.cell? ⟨gb239, 2, none⟩ = some (.int .i64 a3_2) := (blk_cell BK239.out 2).trans rfl
              have hcz80_3 : wc.cell? ⟨gb239, 3, none⟩ = some (.int .i64 a3_3) := (blk_cell BK239.out 3).trans rfl
              have hfz80_0 := blk_frozen BK239.out 0
              have hfz80_1 := blk_frozen BK239.out 1
              have hfz80_2 := blk_frozen BK239.out 2
              have hfz80_3 := blk_frozen BK239.out 3
              go_wp2_with (first | ((with_reducible refine gate_store (t := 24) (p := 8) rfl ?_); refine HW.store_box rfl rfl 24 _ _ rfl rfl rfl BK239.out rfl (by kernel_rfl) (by intro q hq; simp only [List.mem_cons, List.not_mem_nil, or_false] at hq; rcases hq with rfl | rfl | rfl | rfl <;> rfl) ?_; intro w1_ hw1_; simp only [List.toList_toArray, World.setCells, Nat.zero_add, Nat.reduceAdd] at hw1_; subst hw1_) | ((with_reducible refine gate_callee (f := 18) rfl ?_); refine goesL_ (some 93) rfl rfl Try.func18 (by kernel_rfl) rfl #[.agg #[.bool a3_0, .int .i64 a3_1, .int .i64 a3_2, .int .i64 a3_3]] rfl (by (try simp only [List.map_toArray, List.map_cons, List.map_nil]); first | done | rfl | (simp only [List.length_drop, List.length_take]; rfl)) ?_; (with_reducible refine (phaetonref16_Right.calls a3_0 a3_1 a3_2 a3_3 false _ A54.out).mono ?_); rintro e w81 ⟨rfl, hb⟩; refine ⟨_, rfl, ?_⟩; have n0_ := Aside0.mk (blk_below (g := gb239) (o := .cells #[.bool a3_0, .int .i64 a3_1, .int .i64 a3_2, .int .i64 a3_3] 24 (0, 0)) (by (with_reducible repeat (first | refine blk_drewN ?_ _ | refine blk_drew ?_ | refine blk_alloc ?_ _)); exact BK239.out) hb); have n1_ := Aside0.mk (below_step (by repeat (first | (with_reducible first | exact HB.out | apply below_alloc | apply pw_below_drewN | apply below_drew1 | refine below_set ?_ GE239.out) | exact HB.out)) hb); clear BK239; clear HB; have BK239 := n0_; have HB := n1_; clear n0_ n1_; (try clear hb); (try clear hb2); (try clear hk); (try clear hi)))
              go_ret
              exact ⟨by first | rfl | (simp [errW_none, errW_some] <;> rfl) | (simp [*, errW_none, errW_some] <;> rfl), by repeat (first | (with_reducible first | exact HB.out | apply below_alloc | apply pw_below_drewN | apply below_drew1 | refine below_set ?_ GE239.out) | exact HB.out)⟩
            · replace c79 := Bool.eq_false_iff.mpr c79
              subst c79
              have H1 : (none) = some r := by rw [if_neg (show ¬ (false = true) by decide)] at H; exact H
              clear H
              have H := H1
              clear H1
              exact absurd H (by simp)

/-- THE ONE PURE STATEMENT of phaetonlaw16_TrustTells. -/
def phaetonlaw16_TrustTells.Pure : Prop := ∀ (a0 : Int) (a1 : Int) (l2 : List Int) (a3_0 : Bool) (a3_1 : Int) (a3_2 : Int) (a3_3 : Int) (a4 : Int), (Lit.int .i64 a0).wf = true → (Lit.int .i64 a1).wf = true → l2.length ≤ maxLen → l2.length * 1 ≤ 140737488351232 → (∀ x ∈ l2, (fun (x : Int) => (Lit.int .u8 x).wf = true) x) → (Lit.int .i64 a3_1).wf = true → (Lit.int .i64 a3_2).wf = true → (Lit.int .i64 a3_3).wf = true → (Lit.int .u8 a4).wf = true → ∃ k, phaetonlaw16_TrustTells.f k a0 a1 l2 a3_0 a3_1 a3_2 a3_3 a4 = some true
theorem phaetonlaw16_TrustTells.walk (P : phaetonlaw16_TrustTells.Pure) (a0 : Int) (a1 : Int) (A2 : Option Addr) (c2 : Nat) (l2 : List Int) (a3_0 : Bool) (a3_1 : Int) (a3_2 : Int) (a3_3 : Int) (a4 : Int) (w : World) (hw0 : (Lit.int .i64 a0).wf = true) (hw1 : (Lit.int .i64 a1).wf = true) (y2 : l2.length * 1 ≤ 140737488351232) (hw2 : ∀ x ∈ l2, (fun (x : Int) => (Lit.int .u8 x).wf = true) x) (hr2 : Kd.C (Kd.int .u8) w A2 l2.length l2) (hc2 : l2.length ≤ c2) (hw3_1 : (Lit.int .i64 a3_1).wf = true) (hw3_2 : (Lit.int .i64 a3_2).wf = true) (hw3_3 : (Lit.int .i64 a3_3).wf = true) (hw4 : (Lit.int .u8 a4).wf = true) :
    Calls Try.prog 3 #[.int .i64 a0, .int .i64 a1, .slice A2 l2.length c2, .agg #[.bool a3_0, .int .i64 a3_1, .int .i64 a3_2, .int .i64 a3_3], .int .u8 a4] w fun e w' => e = .returned (.bool true) ∧ Below w.heap.size w w' := by
  obtain ⟨k, h⟩ := P a0 a1 l2 a3_0 a3_1 a3_2 a3_3 a4 hw0 hw1 (by have := hr2.2.1; unfold maxLen; omega) y2 hw2 hw3_1 hw3_2 hw3_3 hw4
  refine (phaetonlaw16_TrustTells.calls k a0 a1 _ _ l2 a3_0 a3_1 a3_2 a3_3 a4 true w hr2 hc2 h).mono ?_
  rintro e w' ⟨rfl, hd⟩
  exact ⟨rfl, hd⟩

end Go.Proofs.Ytfjffajmagefkaa.Px

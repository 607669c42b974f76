-- Written by myprint.py, a program of this session's, over the kit's print.py; not a text of print.sh's own.
import Derived.Test.YtfbmgflkfpppmaaHandBox
import Derived.Test.YtfbmgflkfpppmaaPx0
import Derived.Test.YtfbmgflkfpppmaaPx1
import Derived.Test.YtfbmgflkfpppmaaPx3
import Derived.Test.YtfbmgflkfpppmaaPx5
namespace Go.Proofs.Ytfbmgflkfpppmaa.Px
open Go.RowKit Go.Proofs.YtfbmgflkfpppmaaW.PrintWords Go.Proofs.YtfbmgflkfpppmaaW.PrintLast Go.Proofs.YtfbmgflkfpppmaaW.PrintMore
attribute [local go_sem] max2_int min2_int max_two min_two max_three min_three max_four min_four   -- for this text's walks alone
set_option linter.unusedVariables false
set_option linter.unusedSimpArgs false

/-! ### phaetontop_TopLost: function 3 -/
mutual
def phaetontop_TopLost.j0 : Nat → List (List Int) → List Bool → Int → Bool → Bool → Option (Bool)
  | 0, _, _, _, _, _ => none
  | k + 1, x0, x1, x2, x7, x28 => if x28 = true then (if x7 = true then (some true) else (none)) else ((trust_New.f).bind fun bt156 => (phaetontop_TopLost.l0 k x0 x1 x2 x7 (-1) 0 bt156.1 bt156.2.1 bt156.2.2.1 bt156.2.2.2))
def phaetontop_TopLost.l0 : Nat → List (List Int) → List Bool → Int → Bool → Int → Int → Bool → Int → Int → Int → Option (Bool)
  | 0, _, _, _, _, _, _, _, _, _, _ => none
  | k + 1, x0, x1, x2, x7, x9, x10, x161000, x161001, x161002, x161003 => if x10 < (x0.length : Int) then (if 0 ≤ x10 then (if ((rd_L1 x0 x10).length : Int) > 6 then (if x7 = true then (some true) else (none)) else ((trust_Wrap.f (wrap64 (x2)) (Int.tmod x10 15) (rd_L1 x0 x10)).bind fun bt163 => (if bt163.2 = true then (if x10 < (x1.length : Int) then (if rdOf false x1 x10 = true then ((trust_Check.f x161000 x161001 x161002 x161003 (wrap64 (x2)) bt163.1 14).bind fun bt168 => (if x9 < 0 then (if bt168.2.2.2.2.2 = 2 then (if 2 = 3 then (if (bt168.2.2.2.2.1.length : Int) = 0 then (phaetontop_TopLost.l0 k x0 x1 x2 x7 x10 (wrap64 (x10 + 1)) bt168.1 bt168.2.1 bt168.2.2.1 bt168.2.2.2.1) else (none)) else ((phaetonref01_SameBytes.f bt168.2.2.2.2.1 (rd_L1 x0 x10)).bind fun t178 => (if t178 = true then (phaetontop_TopLost.l0 k x0 x1 x2 x7 x10 (wrap64 (x10 + 1)) bt168.1 bt168.2.1 bt168.2.2.1 bt168.2.2.2.1) else (none)))) else (none)) else (if (Int.tmod (wrap64 (x10 - x9)) 15) = 0 then (if bt168.2.2.2.2.2 = 3 then (if 3 = 3 then (if (bt168.2.2.2.2.1.length : Int) = 0 then (phaetontop_TopLost.l0 k x0 x1 x2 x7 x10 (wrap64 (x10 + 1)) bt168.1 bt168.2.1 bt168.2.2.1 bt168.2.2.2.1) else (none)) else ((phaetonref01_SameBytes.f bt168.2.2.2.2.1 (rd_L1 x0 x10)).bind fun t180 => (if t180 = true then (phaetontop_TopLost.l0 k x0 x1 x2 x7 x10 (wrap64 (x10 + 1)) bt168.1 bt168.2.1 bt168.2.2.1 bt168.2.2.2.1) else (none)))) else (none)) else (if (Int.tmod (wrap64 (x10 - x9)) 15) = 1 then (if bt168.2.2.2.2.2 = 1 then (if 1 = 3 then (if (bt168.2.2.2.2.1.length : Int) = 0 then (phaetontop_TopLost.l0 k x0 x1 x2 x7 x10 (wrap64 (x10 + 1)) bt168.1 bt168.2.1 bt168.2.2.1 bt168.2.2.2.1) else (none)) else ((phaetonref01_SameBytes.f bt168.2.2.2.2.1 (rd_L1 x0 x10)).bind fun t182 => (if t182 = true then (phaetontop_TopLost.l0 k x0 x1 x2 x7 x10 (wrap64 (x10 + 1)) bt168.1 bt168.2.1 bt168.2.2.1 bt168.2.2.2.1) else (none)))) else (none)) else (if bt168.2.2.2.2.2 = 4 then (if 4 = 3 then (if (bt168.2.2.2.2.1.length : Int) = 0 then (phaetontop_TopLost.l0 k x0 x1 x2 x7 x10 (wrap64 (x10 + 1)) bt168.1 bt168.2.1 bt168.2.2.1 bt168.2.2.2.1) else (none)) else ((phaetonref01_SameBytes.f bt168.2.2.2.2.1 (rd_L1 x0 x10)).bind fun t184 => (if t184 = true then (phaetontop_TopLost.l0 k x0 x1 x2 x7 x10 (wrap64 (x10 + 1)) bt168.1 bt168.2.1 bt168.2.2.1 bt168.2.2.2.1) else (none)))) else (none)))))) else (phaetontop_TopLost.l0 k x0 x1 x2 x7 x9 (wrap64 (x10 + 1)) x161000 x161001 x161002 x161003)) else (none)) else (none)))) else (none)) else (if x7 = true then (some true) else (none))
end
def phaetontop_TopLost.f (k : Nat) (l0 : List (List Int)) (l1 : List Bool) (a2 : Int) : Option (Bool) := (phaetontop_head16.f).bind fun t155 => (if (l0.length : Int) > 30 then (phaetontop_TopLost.j0 k l0 l1 a2 t155 true) else (phaetontop_TopLost.j0 k l0 l1 a2 t155 (decide ((l1.length : Int) < (l0.length : Int)))))
theorem phaetontop_TopLost.mono_l : ∀ k, (∀ y0 y1 y2 y3 y4, LeO (phaetontop_TopLost.j0 k y0 y1 y2 y3 y4) (phaetontop_TopLost.j0 (k + 1) y0 y1 y2 y3 y4)) ∧ (∀ y0 y1 y2 y3 y4 y5 y6 y7 y8 y9, LeO (phaetontop_TopLost.l0 k y0 y1 y2 y3 y4 y5 y6 y7 y8 y9) (phaetontop_TopLost.l0 (k + 1) y0 y1 y2 y3 y4 y5 y6 y7 y8 y9))
  | 0 => ⟨fun _ _ _ _ _ r h => by simp [phaetontop_TopLost.j0] at h, fun _ _ _ _ _ _ _ _ _ _ r h => by simp [phaetontop_TopLost.l0] at h⟩
  | k + 1 => by
    obtain ⟨ih0, ih1⟩ := phaetontop_TopLost.mono_l k
    refine ⟨?_, ?_⟩
    · intro y0 y1 y2 y3 y4
      unfold phaetontop_TopLost.j0
      repeat' first
      | (with_reducible exact ih0 _ _ _ _ _)
      | (with_reducible exact ih1 _ _ _ _ _ _ _ _ _ _)
      | (with_reducible exact LeO.refl _)
      | (with_reducible exact LeO.none _)
      | (with_reducible refine LeO.ite ?_ ?_)
      | (with_reducible refine LeO.bind ?_ (fun _ => ?_))
      | exact ih0 _ _ _ _ _
      | exact ih1 _ _ _ _ _ _ _ _ _ _
      | exact LeO.none _
      | refine LeO.ite ?_ ?_
      | refine LeO.bind ?_ (fun _ => ?_)
    · intro y0 y1 y2 y3 y4 y5 y6 y7 y8 y9
      unfold phaetontop_TopLost.l0
      repeat' first
      | (with_reducible exact ih0 _ _ _ _ _)
      | (with_reducible exact ih1 _ _ _ _ _ _ _ _ _ _)
      | (with_reducible exact LeO.refl _)
      | (with_reducible exact LeO.none _)
      | (with_reducible refine LeO.ite ?_ ?_)
      | (with_reducible refine LeO.bind ?_ (fun _ => ?_))
      | exact ih0 _ _ _ _ _
      | exact ih1 _ _ _ _ _ _ _ _ _ _
      | exact LeO.none _
      | refine LeO.ite ?_ ?_
      | refine LeO.bind ?_ (fun _ => ?_)
theorem phaetontop_TopLost.mono : ∀ a0 a1 a2 k, LeO (phaetontop_TopLost.f k a0 a1 a2) (phaetontop_TopLost.f (k + 1) a0 a1 a2) := by
  intro a0 a1 a2 k
  obtain ⟨ih0, ih1⟩ := phaetontop_TopLost.mono_l k
  unfold phaetontop_TopLost.f
  repeat' first
      | (with_reducible exact ih0 _ _ _ _ _)
      | (with_reducible exact ih1 _ _ _ _ _ _ _ _ _ _)
      | (with_reducible exact LeO.refl _)
      | (with_reducible exact LeO.none _)
      | (with_reducible refine LeO.ite ?_ ?_)
      | (with_reducible refine LeO.bind ?_ (fun _ => ?_))
      | exact ih0 _ _ _ _ _
      | exact ih1 _ _ _ _ _ _ _ _ _ _
      | exact LeO.none _
      | refine LeO.ite ?_ ?_
      | refine LeO.bind ?_ (fun _ => ?_)
set_option maxHeartbeats 8000000 in
set_option maxRecDepth 100000 in
theorem phaetontop_TopLost.calls (k : Nat) (A0 : Option Addr) (c0 : Nat) (l0 : List (List Int)) (A1 : Option Addr) (c1 : Nat) (l1 : List Bool) (a2 : Int) (r : Bool) (w : World) (hr0 : Kd.C (Kd.slice 5 (Kd.int .u8)) w A0 l0.length l0) (hc0 : l0.length ≤ c0) (hr1 : Kd.C Kd.bool w A1 l1.length l1) (hc1 : l1.length ≤ c1) (h : phaetontop_TopLost.f k l0 l1 a2 = some r) :
    Calls Try.prog 3 #[.slice A0 l0.length c0, .slice A1 l1.length c1, .int .u16 a2] w fun e w' => e = .returned (.bool r) ∧ Below w.heap.size w w' := by
  have hu27 := Try.underlying27
  have HR0 := Aside0.mk hr0
  have HC0 := Aside0.mk hc0
  clear hr0 hc0
  have HR1 := Aside0.mk hr1
  have HC1 := Aside0.mk hc1
  clear hr1 hc1
  have HB := Aside0.mk (Below.refl w.heap.size w)
  have H : ((phaetontop_head16.f).bind fun t155 => (if (l0.length : Int) > 30 then (phaetontop_TopLost.j0 k l0 l1 a2 t155 true) else (phaetontop_TopLost.j0 k l0 l1 a2 t155 (decide ((l1.length : Int) < (l0.length : Int)))))) = some r := h
  clear h
  replace H := Option.bind_eq_some_iff.mp H
  obtain ⟨t155, A40, H⟩ := H
  replace H : (if (l0.length : Int) > 30 then (phaetontop_TopLost.j0 k l0 l1 a2 t155 true) else (phaetontop_TopLost.j0 k l0 l1 a2 t155 (decide ((l1.length : Int) < (l0.length : Int))))) = some r := H
  have A4 := Aside0.mk A40
  clear A40
  have HC5 := Aside0.mk H
  clear H
  go_enter Try.func3, Try.ntmps3
  (try simp only [List.append])
  go_upto_region 2 with (first | ((with_reducible refine gate_callee (f := 4) rfl ?_); refine goesL_ (some 18) rfl rfl Try.func4 (by kernel_rfl) rfl #[] rfl (by (try simp only [List.map_toArray, List.map_cons, List.map_nil]); first | done | rfl | (simp only [List.length_drop, List.length_take]; rfl)) ?_; (with_reducible refine (phaetontop_head16.calls  t155 _ A4.out).mono ?_); rintro e w6 ⟨rfl, hb⟩; refine ⟨_, rfl, ?_⟩; have n0_ := Aside0.mk (below_step (by repeat (first | (with_reducible first | exact HB.out | apply below_alloc | apply pw_below_drewN | apply below_drew1) | exact HB.out)) hb); clear HB; have HB := n0_; clear n0_; (try clear hb); (try clear hb2); (try clear hk); (try clear hi)))
  (try simp only [Act.put, List.setIfInBounds_toArray, List.set_cons_zero, List.set_cons_succ])
  go_cut [28] (fun v28 wc => ∃ (kq : Nat) (x28_4 : Bool), v28 = .bool x28_4 ∧ Aside0 (phaetontop_TopLost.j0 kq l0 l1 a2 t155 x28_4 = some r) ∧ Aside0 (kq ≤ k) ∧ Aside0 (Below w.heap.size w wc))
  case first =>
    have H := HC5.out
    clear HC5
    by_cases c7 : (l0.length : Int) > 30
    · rw [if_pos c7] at H
      have c7b0 : decide (30 < (l0.length : Int)) = true := decide_eq_true c7
      have c7b1 : decide (30 < l0.length) = true := decide_eq_true (by omega)
      clear c7
      (first | rw [c7b0] | (simp only [i64_w, i32_w]; rw [c7b0]) | skip)
      have H' := Aside0.mk H
      clear H
      go_wp2
      go_meet
      case rel => exact ⟨_, (true), (by first | rfl | (simp; done) | (simp [*]; done)), H', ⟨by first | omega | exact Nat.le_refl _⟩, ⟨by repeat (first | (with_reducible first | exact HB.out | apply below_alloc | apply pw_below_drewN | apply below_drew1) | exact HB.out)⟩⟩
    · rw [if_neg c7] at H
      have c7b0 : decide (30 < (l0.length : Int)) = false := decide_eq_false c7
      have c7b1 : decide (30 < l0.length) = false := decide_eq_false (by omega)
      clear c7
      (first | rw [c7b0] | (simp only [i64_w, i32_w]; rw [c7b0]) | skip)
      have H' := Aside0.mk H
      clear H
      go_wp2
      go_meet
      case rel => exact ⟨_, (decide ((l1.length : Int) < (l0.length : Int))), (by first | rfl | (simp; done) | (simp [*]; done)), H', ⟨by first | omega | exact Nat.le_refl _⟩, ⟨by repeat (first | (with_reducible first | exact HB.out | apply below_alloc | apply pw_below_drewN | apply below_drew1) | exact HB.out)⟩⟩
  case rest =>
    clear HC5
    try clear c1
    try clear p2
    try clear c3
    try clear c4
    try clear c7
    try clear c7b0
    try clear c7b1
    obtain ⟨kq, x28_4, rfl, HA, HJ4, HB⟩ := hcut
    cases kq with
    | zero => exact absurd HA.out (by simp [phaetontop_TopLost.j0])
    | succ kj4 =>
      have H := HA.out
      clear HA
      simp only [phaetontop_TopLost.j0] at H
      by_cases c8 : x28_4 = true
      · subst c8
        have H1 : (if t155 = true then (some true) else (none)) = some r := by rw [if_pos rfl] at H; exact H
        clear H
        have H := H1
        clear H1
        by_cases c9 : t155 = true
        · subst c9
          have H1 : (some true) = some r := by rw [if_pos rfl] at H; exact H
          clear H
          have H := H1
          clear H1
          obtain rfl := Option.some.inj H
          go_wp2
          go_ret
          exact ⟨by first | rfl | (simp [errW_none, errW_some] <;> rfl) | (simp [*, errW_none, errW_some] <;> rfl), by repeat (first | (with_reducible first | exact HB.out | apply below_alloc | apply pw_below_drewN | apply below_drew1) | exact HB.out)⟩
        · replace c9 := Bool.eq_false_iff.mpr c9
          subst c9
          have H1 : (none) = some r := by rw [if_neg (show ¬ (false = true) by decide)] at H; exact H
          clear H
          have H := H1
          clear H1
          exact absurd H (by simp)
      · replace c8 := Bool.eq_false_iff.mpr c8
        subst c8
        have H1 : ((trust_New.f).bind fun bt156 => (phaetontop_TopLost.l0 kj4 l0 l1 a2 t155 (-1) 0 bt156.1 bt156.2.1 bt156.2.2.1 bt156.2.2.2)) = some r := by rw [if_neg (show ¬ (false = true) by decide)] at H; exact H
        clear H
        have H := H1
        clear H1
        replace H := Option.bind_eq_some_iff.mp H
        obtain ⟨⟨t156, t157, t158, t159⟩, A100, H⟩ := H
        replace H : (phaetontop_TopLost.l0 kj4 l0 l1 a2 t155 (-1) 0 t156 t157 t158 t159) = some r := H
        have A10 := Aside0.mk A100
        clear A100
        have H' := Aside0.mk H
        clear H
        go_wp2_with (first | ((with_reducible refine gate_store (t := 27) (p := 8) rfl ?_); refine HW.store_box2 rfl rfl 27 _ _ rfl rfl rfl BK160.out rfl (by kernel_rfl) (by intro q hq; simp only [List.mem_cons, List.not_mem_nil, or_false] at hq; rcases hq with rfl | rfl | rfl | rfl <;> rfl) ?_; intro w1_ hw1_ hk1_; simp only [List.toList_toArray, World.setCells, Nat.zero_add, Nat.reduceAdd] at hw1_; subst hw1_; have hcb160_0 := (blk_cell hk1_ 0).trans rfl; have hfb160_0 := blk_frozen hk1_ 0; have hcb160_1 := (blk_cell hk1_ 1).trans rfl; have hfb160_1 := blk_frozen hk1_ 1; have hcb160_2 := (blk_cell hk1_ 2).trans rfl; have hfb160_2 := blk_frozen hk1_ 2; have hcb160_3 := (blk_cell hk1_ 3).trans rfl; have hfb160_3 := blk_frozen hk1_ 3; clear hk1_) | ((with_reducible refine gate_callee (f := 5) rfl ?_); refine goesL_ (some 30) rfl rfl Try.func5 (by kernel_rfl) rfl #[] rfl (by (try simp only [List.map_toArray, List.map_cons, List.map_nil]); first | done | rfl | (simp only [List.length_drop, List.length_take]; rfl)) ?_; (with_reducible refine (trust_New.calls  t156 t157 t158 t159 _ A10.out).mono ?_); rintro e w11 ⟨rfl, hb⟩; refine ⟨_, rfl, ?_⟩; have n0_ := Aside0.mk (below_step (by repeat (first | (with_reducible first | exact HB.out | apply below_alloc | apply pw_below_drewN | apply below_drew1) | exact HB.out)) hb); clear HB; have HB := n0_; clear n0_; (try clear hb); (try clear hb2); (try clear hk); (try clear hi)) | ((with_reducible refine gate_dst (N := 8) rfl ?_); (try (refine gate_guard (by rfl) ?_; dsimp only)); refine box_event ?hg (N := 8) ?hd (cs := #[.bool false, .int .i64 0, .int .i64 0, .int .i64 0]) (t := 27) ?hr ?_; (case hd => rfl); (case hg => rfl); (case hr => first | (go_simp; done) | (go_simp; rfl)); intro gb160 hg w12 hbox hb; have n0_ := Aside0.mk (below_step (by repeat (first | (with_reducible first | exact HB.out | apply below_alloc | apply pw_below_drewN | apply below_drew1) | exact HB.out)) hb); have n1_ := Aside0.mk (hbox); have n2_ := Aside0.mk ((by rw [hg]; exact (below_size (by repeat (first | (with_reducible first | exact HB.out | apply below_alloc | apply pw_below_drewN | apply below_drew1) | exact HB.out))) : w.heap.size ≤ gb160)); have n3_ := Aside0.mk ((by rw [hg]; exact (below_size (by repeat (first | (with_reducible first | exact HB.out | apply below_alloc | apply pw_below_drewN | apply below_drew1) | exact HB.out))) : w.heap.size ≤ gb160)); clear HB; have HB := n0_; have BK160 := n1_; have GW160 := n2_; have GE160 := n3_; clear n0_ n1_ n2_ n3_; clear hb hbox hg; have hcz13_0 : w12.cell? ⟨gb160, 0, none⟩ = some (.bool false) := (blk_cell BK160.out 0).trans rfl; have hcz13_1 : w12.cell? ⟨gb160, 1, none⟩ = some (.int .i64 0) := (blk_cell BK160.out 1).trans rfl; have hcz13_2 : w12.cell? ⟨gb160, 2, none⟩ = some (.int .i64 0) := (blk_cell BK160.out 2).trans rfl; have hcz13_3 : w12.cell? ⟨gb160, 3, none⟩ = some (.int .i64 0) := (blk_cell BK160.out 3).trans rfl; have hfz13_0 := blk_frozen BK160.out 0; have hfz13_1 := blk_frozen BK160.out 1; have hfz13_2 := blk_frozen BK160.out 2; have hfz13_3 := blk_frozen BK160.out 3))
        go_loopg [9, 10] kj4 (fun kq v9 v10 w' => ∃ (x9_2 : Int) (x10_2 : Int) (x161000_2 : Bool) (x161001_2 : Int) (x161002_2 : Int) (x161003_2 : Int), v9 = .int .i64 x9_2 ∧ v10 = .int .i64 x10_2 ∧ Aside0 (phaetontop_TopLost.l0 kq l0 l1 a2 t155 x9_2 x10_2 x161000_2 x161001_2 x161002_2 x161003_2 = some r) ∧ Aside0 (kq ≤ kj4) ∧ Aside0 (w'.heap[gb160]? = some (.cells #[.bool x161000_2, .int .i64 x161001_2, .int .i64 x161002_2, .int .i64 x161003_2] 27 (0, 0))) ∧ Aside0 (Below w.heap.size w w'))
        case atStart => exact ⟨((-1)), (0), (t156), (t157), (t158), (t159), (by first | rfl | (simp; done) | (simp [*]; done)), (by first | rfl | (simp; done) | (simp [*]; done)), H', ⟨Nat.le_refl _⟩, ⟨by (with_reducible repeat (first | refine blk_drewN ?_ _ | refine blk_drew ?_ | refine blk_alloc ?_ _)); refine blk_put (cs := #[.bool t156, .int .i64 t157, .int .i64 t158, .int .i64 0]) ?_ 3 _ rfl; (with_reducible repeat (first | refine blk_drewN ?_ _ | refine blk_drew ?_ | refine blk_alloc ?_ _)); refine blk_put (cs := #[.bool t156, .int .i64 t157, .int .i64 0, .int .i64 0]) ?_ 2 _ rfl; (with_reducible repeat (first | refine blk_drewN ?_ _ | refine blk_drew ?_ | refine blk_alloc ?_ _)); refine blk_put (cs := #[.bool t156, .int .i64 0, .int .i64 0, .int .i64 0]) ?_ 1 _ rfl; (with_reducible repeat (first | refine blk_drewN ?_ _ | refine blk_drew ?_ | refine blk_alloc ?_ _)); refine blk_put (cs := #[.bool false, .int .i64 0, .int .i64 0, .int .i64 0]) ?_ 0 _ rfl; (with_reducible repeat (first | refine blk_drewN ?_ _ | refine blk_drew ?_ | refine blk_alloc ?_ _)); exact BK160.out⟩, ⟨by repeat (first | (with_reducible first | exact HB.out | apply below_alloc | apply pw_below_drewN | apply below_drew1 | refine below_set ?_ GE160.out) | exact HB.out)⟩⟩
        case round =>
          clear H'
          try clear c1
          try clear p2
          try clear c3
          try clear c4
          try clear c5
          try clear c7
          try clear c7b0
          try clear c7b1
          try clear c8
          try clear c9
          try clear hcz13_0
          try clear hcz13_1
          try clear hcz13_2
          try clear hcz13_3
          try clear hfz13_0
          try clear hfz13_1
          try clear hfz13_2
          try clear hfz13_3
          try clear p2
          obtain ⟨x9_2, x10_2, x161000_2, x161001_2, x161002_2, x161003_2, rfl, rfl, HA, HK2, BK160, HB⟩ := hrel
          cases gk with
          | zero => exact absurd HA.out (by simp [phaetontop_TopLost.l0])
          | succ k2 =>
            have H := HA.out
            clear HA
            simp only [phaetontop_TopLost.l0] at H
            by_cases c14 : x10_2 < (l0.length : Int)
            · rw [if_pos c14] at H
              have c14b0 : decide (x10_2 < (l0.length : Int)) = true := decide_eq_true c14
              clear c14
              by_cases c15 : 0 ≤ x10_2
              · rw [if_pos c15] at H
                have c15b0 : decide (0 ≤ x10_2) = true := decide_eq_true c15
                clear c15
                by_cases c16 : ((rd_L1 l0 x10_2).length : Int) > 6
                · rw [if_pos c16] at H
                  have c16b0 : decide (6 < ((rd_L1 l0 x10_2).length : Int)) = true := decide_eq_true c16
                  have c16b1 : decide (6 < (rd_L1 l0 x10_2).length) = true := decide_eq_true (by omega)
                  clear c16
                  by_cases c17 : t155 = true
                  · subst c17
                    have H1 : (some true) = some r := by rw [if_pos rfl] at H; exact H
                    clear H
                    have H := H1
                    clear H1
                    obtain rfl := Option.some.inj H
                    have p161 : 0 ≤ (x10_2 : Int) := of_decide_eq_true (by first | (with_reducible assumption) | assumption)
                    have q161 : x10_2 < (l0.length : Int) := of_decide_eq_true (by first | (with_reducible assumption) | assumption)
                    obtain ⟨ad161, A161_0, c161_0, e161, hx161_0, hl161_0, hi161_0⟩ := at_L1 HR0.out x10_2 p161 q161
                    cases e161
                    replace hx161_0 := (HB.out.cell (World.block_lt_of_cell? w _ hx161_0)).trans hx161_0
                    have HR161_0 := Aside0.mk hi161_0
                    have HC161_0 := Aside0.mk hl161_0
                    clear hi161_0 hl161_0
                    replace p161 := eq_true p161
                    replace q161 := eq_true q161
                    go_wp2
                    go_ret
                    exact ⟨by first | rfl | (simp [errW_none, errW_some] <;> rfl) | (simp [*, errW_none, errW_some] <;> rfl), by repeat (first | (with_reducible first | exact HB.out | apply below_alloc | apply pw_below_drewN | apply below_drew1 | refine below_set ?_ GE160.out) | exact HB.out)⟩
                  · replace c17 := Bool.eq_false_iff.mpr c17
                    subst c17
                    have H1 : (none) = some r := by rw [if_neg (show ¬ (false = true) by decide)] at H; exact H
                    clear H
                    have H := H1
                    clear H1
                    exact absurd H (by simp)
                · rw [if_neg c16] at H
                  have c16b0 : decide (6 < ((rd_L1 l0 x10_2).length : Int)) = false := decide_eq_false c16
                  have c16b1 : decide (6 < (rd_L1 l0 x10_2).length) = false := decide_eq_false (by omega)
                  clear c16
                  replace H := Option.bind_eq_some_iff.mp H
                  obtain ⟨⟨t163, t164⟩, A180, H⟩ := H
                  replace H : (if t164 = true then (if x10_2 < (l1.length : Int) then (if rdOf false l1 x10_2 = true then ((trust_Check.f x161000_2 x161001_2 x161002_2 x161003_2 (wrap64 (a2)) t163 14).bind fun bt168 => (if x9_2 < 0 then (if bt168.2.2.2.2.2 = 2 then (if 2 = 3 then (if (bt168.2.2.2.2.1.length : Int) = 0 then (phaetontop_TopLost.l0 k2 l0 l1 a2 t155 x10_2 (wrap64 (x10_2 + 1)) bt168.1 bt168.2.1 bt168.2.2.1 bt168.2.2.2.1) else (none)) else ((phaetonref01_SameBytes.f bt168.2.2.2.2.1 (rd_L1 l0 x10_2)).bind fun t178 => (if t178 = true then (phaetontop_TopLost.l0 k2 l0 l1 a2 t155 x10_2 (wrap64 (x10_2 + 1)) bt168.1 bt168.2.1 bt168.2.2.1 bt168.2.2.2.1) else (none)))) else (none)) else (if (Int.tmod (wrap64 (x10_2 - x9_2)) 15) = 0 then (if bt168.2.2.2.2.2 = 3 then (if 3 = 3 then (if (bt168.2.2.2.2.1.length : Int) = 0 then (phaetontop_TopLost.l0 k2 l0 l1 a2 t155 x10_2 (wrap64 (x10_2 + 1)) bt168.1 bt168.2.1 bt168.2.2.1 bt168.2.2.2.1) else (none)) else ((phaetonref01_SameBytes.f bt168.2.2.2.2.1 (rd_L1 l0 x10_2)).bind fun t180 => (if t180 = true then (phaetontop_TopLost.l0 k2 l0 l1 a2 t155 x10_2 (wrap64 (x10_2 + 1)) bt168.1 bt168.2.1 bt168.2.2.1 bt168.2.2.2.1) else (none)))) else (none)) else (if (Int.tmod (wrap64 (x10_2 - x9_2)) 15) = 1 then (if bt168.2.2.2.2.2 = 1 then (if 1 = 3 then (if (bt168.2.2.2.2.1.length : Int) = 0 then (phaetontop_TopLost.l0 k2 l0 l1 a2 t155 x10_2 (wrap64 (x10_2 + 1)) bt168.1 bt168.2.1 bt168.2.2.1 bt168.2.2.2.1) else (none)) else ((phaetonref01_SameBytes.f bt168.2.2.2.2.1 (rd_L1 l0 x10_2)).bind fun t182 => (if t182 = true then (phaetontop_TopLost.l0 k2 l0 l1 a2 t155 x10_2 (wrap64 (x10_2 + 1)) bt168.1 bt168.2.1 bt168.2.2.1 bt168.2.2.2.1) else (none)))) else (none)) else (if bt168.2.2.2.2.2 = 4 then (if 4 = 3 then (if (bt168.2.2.2.2.1.length : Int) = 0 then (phaetontop_TopLost.l0 k2 l0 l1 a2 t155 x10_2 (wrap64 (x10_2 + 1)) bt168.1 bt168.2.1 bt168.2.2.1 bt168.2.2.2.1) else (none)) else ((phaetonref01_SameBytes.f bt168.2.2.2.2.1 (rd_L1 l0 x10_2)).bind fun t184 => (if t184 = true then (phaetontop_TopLost.l0 k2 l0 l1 a2 t155 x10_2 (wrap64 (x10_2 + 1)) bt168.1 bt168.2.1 bt168.2.2.1 bt168.2.2.2.1) else (none)))) else (none)))))) else (phaetontop_TopLost.l0 k2 l0 l1 a2 t155 x9_2 (wrap64 (x10_2 + 1)) x161000_2 x161001_2 x161002_2 x161003_2)) else (none)) else (none)) = some r := H
                  have A18 := Aside0.mk A180
                  clear A180
                  by_cases c19 : t164 = true
                  · subst c19
                    have H1 : (if x10_2 < (l1.length : Int) then (if rdOf false l1 x10_2 = true then ((trust_Check.f x161000_2 x161001_2 x161002_2 x161003_2 (wrap64 (a2)) t163 14).bind fun bt168 => (if x9_2 < 0 then (if bt168.2.2.2.2.2 = 2 then (if 2 = 3 then (if (bt168.2.2.2.2.1.length : Int) = 0 then (phaetontop_TopLost.l0 k2 l0 l1 a2 t155 x10_2 (wrap64 (x10_2 + 1)) bt168.1 bt168.2.1 bt168.2.2.1 bt168.2.2.2.1) else (none)) else ((phaetonref01_SameBytes.f bt168.2.2.2.2.1 (rd_L1 l0 x10_2)).bind fun t178 => (if t178 = true then (phaetontop_TopLost.l0 k2 l0 l1 a2 t155 x10_2 (wrap64 (x10_2 + 1)) bt168.1 bt168.2.1 bt168.2.2.1 bt168.2.2.2.1) else (none)))) else (none)) else (if (Int.tmod (wrap64 (x10_2 - x9_2)) 15) = 0 then (if bt168.2.2.2.2.2 = 3 then (if 3 = 3 then (if (bt168.2.2.2.2.1.length : Int) = 0 then (phaetontop_TopLost.l0 k2 l0 l1 a2 t155 x10_2 (wrap64 (x10_2 + 1)) bt168.1 bt168.2.1 bt168.2.2.1 bt168.2.2.2.1) else (none)) else ((phaetonref01_SameBytes.f bt168.2.2.2.2.1 (rd_L1 l0 x10_2)).bind fun t180 => (if t180 = true then (phaetontop_TopLost.l0 k2 l0 l1 a2 t155 x10_2 (wrap64 (x10_2 + 1)) bt168.1 bt168.2.1 bt168.2.2.1 bt168.2.2.2.1) else (none)))) else (none)) else (if (Int.tmod (wrap64 (x10_2 - x9_2)) 15) = 1 then (if bt168.2.2.2.2.2 = 1 then (if 1 = 3 then (if (bt168.2.2.2.2.1.length : Int) = 0 then (phaetontop_TopLost.l0 k2 l0 l1 a2 t155 x10_2 (wrap64 (x10_2 + 1)) bt168.1 bt168.2.1 bt168.2.2.1 bt168.2.2.2.1) else (none)) else ((phaetonref01_SameBytes.f bt168.2.2.2.2.1 (rd_L1 l0 x10_2)).bind fun t182 => (if t182 = true then (phaetontop_TopLost.l0 k2 l0 l1 a2 t155 x10_2 (wrap64 (x10_2 + 1)) bt168.1 bt168.2.1 bt168.2.2.1 bt168.2.2.2.1) else (none)))) else (none)) else (if bt168.2.2.2.2.2 = 4 then (if 4 = 3 then (if (bt168.2.2.2.2.1.length : Int) = 0 then (phaetontop_TopLost.l0 k2 l0 l1 a2 t155 x10_2 (wrap64 (x10_2 + 1)) bt168.1 bt168.2.1 bt168.2.2.1 bt168.2.2.2.1) else (none)) else ((phaetonref01_SameBytes.f bt168.2.2.2.2.1 (rd_L1 l0 x10_2)).bind fun t184 => (if t184 = true then (phaetontop_TopLost.l0 k2 l0 l1 a2 t155 x10_2 (wrap64 (x10_2 + 1)) bt168.1 bt168.2.1 bt168.2.2.1 bt168.2.2.2.1) else (none)))) else (none)))))) else (phaetontop_TopLost.l0 k2 l0 l1 a2 t155 x9_2 (wrap64 (x10_2 + 1)) x161000_2 x161001_2 x161002_2 x161003_2)) else (none)) = some r := by rw [if_pos rfl] at H; exact H
                    clear H
                    have H := H1
                    clear H1
                    by_cases c20 : x10_2 < (l1.length : Int)
                    · rw [if_pos c20] at H
                      have c20b0 : decide (x10_2 < (l1.length : Int)) = true := decide_eq_true c20
                      clear c20
                      obtain ⟨bq21, hbq21⟩ : ∃ b_ : Bool, b_ = (rdOf false l1 x10_2) := ⟨_, rfl⟩
                      replace H : (if bq21 = true then ((trust_Check.f x161000_2 x161001_2 x161002_2 x161003_2 (wrap64 (a2)) t163 14).bind fun bt168 => (if x9_2 < 0 then (if bt168.2.2.2.2.2 = 2 then (if 2 = 3 then (if (bt168.2.2.2.2.1.length : Int) = 0 then (phaetontop_TopLost.l0 k2 l0 l1 a2 t155 x10_2 (wrap64 (x10_2 + 1)) bt168.1 bt168.2.1 bt168.2.2.1 bt168.2.2.2.1) else (none)) else ((phaetonref01_SameBytes.f bt168.2.2.2.2.1 (rd_L1 l0 x10_2)).bind fun t178 => (if t178 = true then (phaetontop_TopLost.l0 k2 l0 l1 a2 t155 x10_2 (wrap64 (x10_2 + 1)) bt168.1 bt168.2.1 bt168.2.2.1 bt168.2.2.2.1) else (none)))) else (none)) else (if (Int.tmod (wrap64 (x10_2 - x9_2)) 15) = 0 then (if bt168.2.2.2.2.2 = 3 then (if 3 = 3 then (if (bt168.2.2.2.2.1.length : Int) = 0 then (phaetontop_TopLost.l0 k2 l0 l1 a2 t155 x10_2 (wrap64 (x10_2 + 1)) bt168.1 bt168.2.1 bt168.2.2.1 bt168.2.2.2.1) else (none)) else ((phaetonref01_SameBytes.f bt168.2.2.2.2.1 (rd_L1 l0 x10_2)).bind fun t180 => (if t180 = true then (phaetontop_TopLost.l0 k2 l0 l1 a2 t155 x10_2 (wrap64 (x10_2 + 1)) bt168.1 bt168.2.1 bt168.2.2.1 bt168.2.2.2.1) else (none)))) else (none)) else (if (Int.tmod (wrap64 (x10_2 - x9_2)) 15) = 1 then (if bt168.2.2.2.2.2 = 1 then (if 1 = 3 then (if (bt168.2.2.2.2.1.length : Int) = 0 then (phaetontop_TopLost.l0 k2 l0 l1 a2 t155 x10_2 (wrap64 (x10_2 + 1)) bt168.1 bt168.2.1 bt168.2.2.1 bt168.2.2.2.1) else (none)) else ((phaetonref01_SameBytes.f bt168.2.2.2.2.1 (rd_L1 l0 x10_2)).bind fun t182 => (if t182 = true then (phaetontop_TopLost.l0 k2 l0 l1 a2 t155 x10_2 (wrap64 (x10_2 + 1)) bt168.1 bt168.2.1 bt168.2.2.1 bt168.2.2.2.1) else (none)))) else (none)) else (if bt168.2.2.2.2.2 = 4 then (if 4 = 3 then (if (bt168.2.2.2.2.1.length : Int) = 0 then (phaetontop_TopLost.l0 k2 l0 l1 a2 t155 x10_2 (wrap64 (x10_2 + 1)) bt168.1 bt168.2.1 bt168.2.2.1 bt168.2.2.2.1) else (none)) else ((phaetonref01_SameBytes.f bt168.2.2.2.2.1 (rd_L1 l0 x10_2)).bind fun t184 => (if t184 = true then (phaetontop_TopLost.l0 k2 l0 l1 a2 t155 x10_2 (wrap64 (x10_2 + 1)) bt168.1 bt168.2.1 bt168.2.2.1 bt168.2.2.2.1) else (none)))) else (none)))))) else (phaetontop_TopLost.l0 k2 l0 l1 a2 t155 x9_2 (wrap64 (x10_2 + 1)) x161000_2 x161001_2 x161002_2 x161003_2)) = some r := by rw [← hbq21] at H; exact H
                      have Nbq21 := Aside0.mk hbq21
                      clear hbq21
                      by_cases c22 : bq21 = true
                      · subst c22
                        have H1 : ((trust_Check.f x161000_2 x161001_2 x161002_2 x161003_2 (wrap64 (a2)) t163 14).bind fun bt168 => (if x9_2 < 0 then (if bt168.2.2.2.2.2 = 2 then (if 2 = 3 then (if (bt168.2.2.2.2.1.length : Int) = 0 then (phaetontop_TopLost.l0 k2 l0 l1 a2 t155 x10_2 (wrap64 (x10_2 + 1)) bt168.1 bt168.2.1 bt168.2.2.1 bt168.2.2.2.1) else (none)) else ((phaetonref01_SameBytes.f bt168.2.2.2.2.1 (rd_L1 l0 x10_2)).bind fun t178 => (if t178 = true then (phaetontop_TopLost.l0 k2 l0 l1 a2 t155 x10_2 (wrap64 (x10_2 + 1)) bt168.1 bt168.2.1 bt168.2.2.1 bt168.2.2.2.1) else (none)))) else (none)) else (if (Int.tmod (wrap64 (x10_2 - x9_2)) 15) = 0 then (if bt168.2.2.2.2.2 = 3 then (if 3 = 3 then (if (bt168.2.2.2.2.1.length : Int) = 0 then (phaetontop_TopLost.l0 k2 l0 l1 a2 t155 x10_2 (wrap64 (x10_2 + 1)) bt168.1 bt168.2.1 bt168.2.2.1 bt168.2.2.2.1) else (none)) else ((phaetonref01_SameBytes.f bt168.2.2.2.2.1 (rd_L1 l0 x10_2)).bind fun t180 => (if t180 = true then (phaetontop_TopLost.l0 k2 l0 l1 a2 t155 x10_2 (wrap64 (x10_2 + 1)) bt168.1 bt168.2.1 bt168.2.2.1 bt168.2.2.2.1) else (none)))) else (none)) else (if (Int.tmod (wrap64 (x10_2 - x9_2)) 15) = 1 then (if bt168.2.2.2.2.2 = 1 then (if 1 = 3 then (if (bt168.2.2.2.2.1.length : Int) = 0 then (phaetontop_TopLost.l0 k2 l0 l1 a2 t155 x10_2 (wrap64 (x10_2 + 1)) bt168.1 bt168.2.1 bt168.2.2.1 bt168.2.2.2.1) else (none)) else ((phaetonref01_SameBytes.f bt168.2.2.2.2.1 (rd_L1 l0 x10_2)).bind fun t182 => (if t182 = true then (phaetontop_TopLost.l0 k2 l0 l1 a2 t155 x10_2 (wrap64 (x10_2 + 1)) bt168.1 bt168.2.1 bt168.2.2.1 bt168.2.2.2.1) else (none)))) else (none)) else (if bt168.2.2.2.2.2 = 4 then (if 4 = 3 then (if (bt168.2.2.2.2.1.length : Int) = 0 then (phaetontop_TopLost.l0 k2 l0 l1 a2 t155 x10_2 (wrap64 (x10_2 + 1)) bt168.1 bt168.2.1 bt168.2.2.1 bt168.2.2.2.1) else (none)) else ((phaetonref01_SameBytes.f bt168.2.2.2.2.1 (rd_L1 l0 x10_2)).bind fun t184 => (if t184 = true then (phaetontop_TopLost.l0 k2 l0 l1 a2 t155 x10_2 (wrap64 (x10_2 + 1)) bt168.1 bt168.2.1 bt168.2.2.1 bt168.2.2.2.1) else (none)))) else (none)))))) = some r := by rw [if_pos rfl] at H; exact H
                        clear H
                        have H := H1
                        clear H1
                        replace H := Option.bind_eq_some_iff.mp H
                        obtain ⟨⟨t168, t169, t170, t171, t172, t175⟩, A230, H⟩ := H
                        replace H : (if x9_2 < 0 then (if t175 = 2 then (if 2 = 3 then (if (t172.length : Int) = 0 then (phaetontop_TopLost.l0 k2 l0 l1 a2 t155 x10_2 (wrap64 (x10_2 + 1)) t168 t169 t170 t171) else (none)) else ((phaetonref01_SameBytes.f t172 (rd_L1 l0 x10_2)).bind fun t178 => (if t178 = true then (phaetontop_TopLost.l0 k2 l0 l1 a2 t155 x10_2 (wrap64 (x10_2 + 1)) t168 t169 t170 t171) else (none)))) else (none)) else (if (Int.tmod (wrap64 (x10_2 - x9_2)) 15) = 0 then (if t175 = 3 then (if 3 = 3 then (if (t172.length : Int) = 0 then (phaetontop_TopLost.l0 k2 l0 l1 a2 t155 x10_2 (wrap64 (x10_2 + 1)) t168 t169 t170 t171) else (none)) else ((phaetonref01_SameBytes.f t172 (rd_L1 l0 x10_2)).bind fun t180 => (if t180 = true then (phaetontop_TopLost.l0 k2 l0 l1 a2 t155 x10_2 (wrap64 (x10_2 + 1)) t168 t169 t170 t171) else (none)))) else (none)) else (if (Int.tmod (wrap64 (x10_2 - x9_2)) 15) = 1 then (if t175 = 1 then (if 1 = 3 then (if (t172.length : Int) = 0 then (phaetontop_TopLost.l0 k2 l0 l1 a2 t155 x10_2 (wrap64 (x10_2 + 1)) t168 t169 t170 t171) else (none)) else ((phaetonref01_SameBytes.f t172 (rd_L1 l0 x10_2)).bind fun t182 => (if t182 = true then (phaetontop_TopLost.l0 k2 l0 l1 a2 t155 x10_2 (wrap64 (x10_2 + 1)) t168 t169 t170 t171) else (none)))) else (none)) else (if t175 = 4 then (if 4 = 3 then (if (t172.length : Int) = 0 then (phaetontop_TopLost.l0 k2 l0 l1 a2 t155 x10_2 (wrap64 (x10_2 + 1)) t168 t169 t170 t171) else (none)) else ((phaetonref01_SameBytes.f t172 (rd_L1 l0 x10_2)).bind fun t184 => (if t184 = true then (phaetontop_TopLost.l0 k2 l0 l1 a2 t155 x10_2 (wrap64 (x10_2 + 1)) t168 t169 t170 t171) else (none)))) else (none))))) = some r := H
                        have A23 := Aside0.mk A230
                        clear A230
                        by_cases c24 : x9_2 < 0
                        · rw [if_pos c24] at H
                          have c24b0 : decide (x9_2 < 0) = true := decide_eq_true c24
                          clear c24
                          by_cases c25 : t175 = 2
                          · rw [if_pos c25] at H
                            have c25b0 : (t175 == 2) = true := beq_iff_eq.mpr c25
                            have c25b1 : (t175 != 2) = false := bne_eq_false_iff_eq.mpr c25
                            clear c25
                            by_cases c26 : 2 = 3
                            · exact absurd c26 (by decide)
                            · rw [if_neg c26] at H
                              have c26b0 : (2 == 3) = false := beq_eq_false_iff_ne.mpr c26
                              have c26b1 : (2 != 3) = true := bne_iff_ne.mpr c26
                              replace H := Option.bind_eq_some_iff.mp H
                              obtain ⟨t178, A370, H⟩ := H
                              replace H : (if t178 = true then (phaetontop_TopLost.l0 k2 l0 l1 a2 t155 x10_2 (wrap64 (x10_2 + 1)) t168 t169 t170 t171) else (none)) = some r := H
                              have A37 := Aside0.mk A370
                              clear A370
                              by_cases c38 : t178 = true
                              · subst c38
                                have H1 : (phaetontop_TopLost.l0 k2 l0 l1 a2 t155 x10_2 (wrap64 (x10_2 + 1)) t168 t169 t170 t171) = some r := by rw [if_pos rfl] at H; exact H
                                clear H
                                have H := H1
                                clear H1
                                have H' := Aside0.mk H
                                clear H
                                have p161 : 0 ≤ (x10_2 : Int) := of_decide_eq_true (by first | (with_reducible assumption) | assumption)
                                have q161 : x10_2 < (l0.length : Int) := of_decide_eq_true (by first | (with_reducible assumption) | assumption)
                                obtain ⟨ad161, A161_0, c161_0, e161, hx161_0, hl161_0, hi161_0⟩ := at_L1 HR0.out x10_2 p161 q161
                                cases e161
                                replace hx161_0 := (HB.out.cell (World.block_lt_of_cell? w _ hx161_0)).trans hx161_0
                                have HR161_0 := Aside0.mk hi161_0
                                have HC161_0 := Aside0.mk hl161_0
                                clear hi161_0 hl161_0
                                replace p161 := eq_true p161
                                replace q161 := eq_true q161
                                have p162 : 0 ≤ (x10_2 : Int) := of_decide_eq_true (by first | (with_reducible assumption) | assumption)
                                have q162 : x10_2 < (l0.length : Int) := of_decide_eq_true (by first | (with_reducible assumption) | assumption)
                                obtain ⟨ad162, A162_0, c162_0, e162, hx162_0, hl162_0, hi162_0⟩ := at_L1 HR0.out x10_2 p162 q162
                                obtain rfl : ad161 = ad162 := (by injection e162)
                                replace hx162_0 := (HB.out.cell (World.block_lt_of_cell? w _ hx162_0)).trans hx162_0
                                have HR162_0 := Aside0.mk hi162_0
                                have HC162_0 := Aside0.mk hl162_0
                                clear hi162_0 hl162_0
                                replace p162 := eq_true p162
                                replace q162 := eq_true q162
                                have ea_ := Option.some.inj (hx161_0.symm.trans hx162_0)
                                injection ea_ with ea_ en_ ec_
                                subst ea_
                                subst ec_
                                clear en_
                                go_wp2_with (first | ((with_reducible refine gate_store (t := 27) (p := 13) rfl ?_); refine HW.store_box2 rfl rfl 27 _ _ rfl rfl rfl BK176.out rfl (by kernel_rfl) (by intro q hq; simp only [List.mem_cons, List.not_mem_nil, or_false] at hq; rcases hq with rfl | rfl | rfl | rfl <;> rfl) ?_; intro w1_ hw1_ hk1_; simp only [List.toList_toArray, World.setCells, Nat.zero_add, Nat.reduceAdd] at hw1_; subst hw1_; have hcb176_0 := (blk_cell hk1_ 0).trans rfl; have hfb176_0 := blk_frozen hk1_ 0; have hcb176_1 := (blk_cell hk1_ 1).trans rfl; have hfb176_1 := blk_frozen hk1_ 1; have hcb176_2 := (blk_cell hk1_ 2).trans rfl; have hfb176_2 := blk_frozen hk1_ 2; have hcb176_3 := (blk_cell hk1_ 3).trans rfl; have hfb176_3 := blk_frozen hk1_ 3; clear hk1_) | ((with_reducible refine gate_store (t := 27) (p := 8) rfl ?_); refine HW.store_box2 rfl rfl 27 _ _ rfl rfl rfl BK160.out rfl (by kernel_rfl) (by intro q hq; simp only [List.mem_cons, List.not_mem_nil, or_false] at hq; rcases hq with rfl | rfl | rfl | rfl <;> rfl) ?_; intro w1_ hw1_ hk1_; simp only [List.toList_toArray, World.setCells, Nat.zero_add, Nat.reduceAdd] at hw1_; subst hw1_; have hcb160_0 := (blk_cell hk1_ 0).trans rfl; have hfb160_0 := blk_frozen hk1_ 0; have hcb160_1 := (blk_cell hk1_ 1).trans rfl; have hfb160_1 := blk_frozen hk1_ 1; have hcb160_2 := (blk_cell hk1_ 2).trans rfl; have hfb160_2 := blk_frozen hk1_ 2; have hcb160_3 := (blk_cell hk1_ 3).trans rfl; have hfb160_3 := blk_frozen hk1_ 3; clear hk1_) | ((with_reducible refine gate_callee (f := 6) rfl ?_); refine goesL_ (some 53) rfl rfl Try.func6 (by kernel_rfl) rfl #[.int .i64 (wrap64 (a2)), .int .i64 (Int.tmod x10_2 15), .slice A161_0 (rd_L1 l0 x10_2).length c161_0] rfl (by (try simp only [List.map_toArray, List.map_cons, List.map_nil]); first | done | rfl | (simp only [List.length_drop, List.length_take]; rfl)) ?_; (with_reducible refine (trust_Wrap.calls (wrap64 (a2)) (Int.tmod x10_2 15) _ _ (rd_L1 l0 x10_2) t163 true _ ?side1 ?side2 A18.out).mono ?_); (case side1 => repeat (first | exact (Kd.C_below HR162_0.out HB.out) | (with_reducible refine Kd.C_alloc ?_ _) | (with_reducible refine Kd.C_drewN ?_ _) | (with_reducible refine Kd.C_drew ?_))); (case side2 => exact HC162_0.out); rintro e w39 ⟨v165, rfl, ho0, hb⟩; refine ⟨_, rfl, ?_⟩; have n0_ := Aside0.mk (Kd.R_lower ho0 (below_size (by repeat (first | (with_reducible first | exact HB.out | apply below_alloc | apply pw_below_drewN | apply below_drew1 | refine below_set ?_ GE160.out) | exact HB.out)))); have n1_ := Aside0.mk (blk_below (g := gb160) (o := .cells #[.bool x161000_2, .int .i64 x161001_2, .int .i64 x161002_2, .int .i64 x161003_2] 27 (0, 0)) (by (with_reducible repeat (first | refine blk_drewN ?_ _ | refine blk_drew ?_ | refine blk_alloc ?_ _)); exact BK160.out) hb); have n2_ := Aside0.mk (below_step (by repeat (first | (with_reducible first | exact HB.out | apply below_alloc | apply pw_below_drewN | apply below_drew1 | refine below_set ?_ GE160.out) | exact HB.out)) hb); clear BK160; clear HB; have HO166 := n0_; have BK160 := n1_; have HB := n2_; clear n0_ n1_ n2_; (try clear hb); (try clear hb2); (try clear hk); (try clear hi); (try clear ho0); have p167 : 0 ≤ (x10_2 : Int) := of_decide_eq_true (by first | (with_reducible assumption) | assumption); have q167 : x10_2 < (l1.length : Int) := of_decide_eq_true (by first | (with_reducible assumption) | assumption); obtain ⟨ad167, e167, hx167_0⟩ := Kd.at_bool HR1.out x10_2 p167 q167; (try rw [← Nbq21.out] at hx167_0); cases e167; replace hx167_0 := (HB.out.cell (World.block_lt_of_cell? w _ hx167_0)).trans hx167_0; replace p167 := eq_true p167; replace q167 := eq_true q167; have hcz40_0 : w39.cell? ⟨gb160, 0, none⟩ = some (.bool x161000_2) := (blk_cell BK160.out 0).trans rfl; have hcz40_1 : w39.cell? ⟨gb160, 1, none⟩ = some (.int .i64 x161001_2) := (blk_cell BK160.out 1).trans rfl; have hcz40_2 : w39.cell? ⟨gb160, 2, none⟩ = some (.int .i64 x161002_2) := (blk_cell BK160.out 2).trans rfl; have hcz40_3 : w39.cell? ⟨gb160, 3, none⟩ = some (.int .i64 x161003_2) := (blk_cell BK160.out 3).trans rfl; have hfz40_0 := blk_frozen BK160.out 0; have hfz40_1 := blk_frozen BK160.out 1; have hfz40_2 := blk_frozen BK160.out 2; have hfz40_3 := blk_frozen BK160.out 3; obtain ⟨Ao41, co41, eo41⟩ := Kd.R_slice HO166.out; subst eo41) | ((with_reducible refine gate_callee (f := 7) rfl ?_); refine goesL_ (some 68) rfl rfl Try.func7 (by kernel_rfl) rfl #[.agg #[.bool x161000_2, .int .i64 x161001_2, .int .i64 x161002_2, .int .i64 x161003_2], .int .i64 (wrap64 (a2)), .slice Ao41 t163.length co41, .int .i64 14] rfl (by (try simp only [List.map_toArray, List.map_cons, List.map_nil]); first | done | rfl | (simp only [List.length_drop, List.length_take]; rfl)) ?_; (with_reducible refine (trust_Check.calls x161000_2 x161001_2 x161002_2 x161003_2 (wrap64 (a2)) _ _ t163 14 t168 t169 t170 t171 t172 t175 _ ?side1 ?side2 A23.out).mono ?_); (case side1 => repeat (first | exact (Kd.R_reads' HO166.out).2.2 | (with_reducible refine Kd.C_alloc ?_ _) | (with_reducible refine Kd.C_drewN ?_ _) | (with_reducible refine Kd.C_drew ?_))); (case side2 => exact (Kd.R_reads' HO166.out).2.1); rintro e w42 ⟨v173, rfl, ho0, hb⟩; refine ⟨_, rfl, ?_⟩; have n0_ := Aside0.mk (Kd.R_elder' (by (with_reducible repeat (first | apply Kd.R_alloc | apply Kd.R_drewN | apply Kd.R_drew)); exact HO166.out) (Kd.R_base ho0) hb); have n1_ := Aside0.mk (Kd.R_lower (Kd.R_new' ho0 (Kd.R_lt (by (with_reducible repeat (first | apply Kd.R_alloc | apply Kd.R_drewN | apply Kd.R_drew)); exact HO166.out))) (below_size (by repeat (first | (with_reducible first | exact HB.out | apply below_alloc | apply pw_below_drewN | apply below_drew1 | refine below_set ?_ GE160.out) | exact HB.out)))); have n2_ := Aside0.mk (blk_below (g := gb160) (o := .cells #[.bool x161000_2, .int .i64 x161001_2, .int .i64 x161002_2, .int .i64 x161003_2] 27 (0, 0)) (by (with_reducible repeat (first | refine blk_drewN ?_ _ | refine blk_drew ?_ | refine blk_alloc ?_ _)); exact BK160.out) hb); have n3_ := Aside0.mk (below_step (by repeat (first | (with_reducible first | exact HB.out | apply below_alloc | apply pw_below_drewN | apply below_drew1 | refine below_set ?_ GE160.out) | exact HB.out)) hb); clear HO166; clear BK160; clear HB; have HO166 := n0_; have HO174 := n1_; have BK160 := n2_; have HB := n3_; clear n0_ n1_ n2_ n3_; (try clear hb); (try clear hb2); (try clear hk); (try clear hi); (try clear ho0)) | ((with_reducible refine gate_dst (N := 13) rfl ?_); (try (refine gate_guard (by rfl) ?_; dsimp only)); refine box_event ?hg (N := 13) ?hd (cs := #[.bool false, .int .i64 0, .int .i64 0, .int .i64 0]) (t := 27) ?hr ?_; (case hd => rfl); (case hg => rfl); (case hr => first | (go_simp; done) | (go_simp; rfl)); intro gb176 hg w43 hbox hb; have n0_ := Aside0.mk (Kd.R_below (by (with_reducible repeat (first | apply Kd.R_alloc | apply Kd.R_drewN | apply Kd.R_drew)); exact HO166.out) hb); have n1_ := Aside0.mk (Kd.R_below (by (with_reducible repeat (first | apply Kd.R_alloc | apply Kd.R_drewN | apply Kd.R_drew)); exact HO174.out) hb); have n2_ := Aside0.mk (blk_below (g := gb160) (o := .cells #[.bool x161000_2, .int .i64 x161001_2, .int .i64 x161002_2, .int .i64 x161003_2] 27 (0, 0)) (by (with_reducible repeat (first | refine blk_drewN ?_ _ | refine blk_drew ?_ | refine blk_alloc ?_ _)); exact BK160.out) hb); have n3_ := Aside0.mk (below_step (by repeat (first | (with_reducible first | exact HB.out | apply below_alloc | apply pw_below_drewN | apply below_drew1 | refine below_set ?_ GE160.out) | exact HB.out)) hb); have n4_ := Aside0.mk (hbox); have n5_ := Aside0.mk ((by rw [hg]; exact (below_size (by repeat (first | (with_reducible first | exact HB.out | apply below_alloc | apply pw_below_drewN | apply below_drew1 | refine below_set ?_ GE160.out) | exact HB.out))) : w.heap.size ≤ gb176)); have n6_ := Aside0.mk ((by rw [hg]; exact (below_size (by repeat (first | (with_reducible first | exact HB.out | apply below_alloc | apply pw_below_drewN | apply below_drew1 | refine below_set ?_ GE160.out) | exact HB.out))) : w.heap.size ≤ gb176)); have n7_ := Aside0.mk ((by rw [hg]; exact Nat.ne_of_lt (blk_lt (g := gb160) (o := .cells #[.bool x161000_2, .int .i64 x161001_2, .int .i64 x161002_2, .int .i64 x161003_2] 27 (0, 0)) (by (with_reducible repeat (first | refine blk_drewN ?_ _ | refine blk_drew ?_ | refine blk_alloc ?_ _)); exact BK160.out)) : gb160 ≠ gb176)); have n8_ := Aside0.mk ((by rw [hg]; exact Nat.ne_of_gt (blk_lt (g := gb160) (o := .cells #[.bool x161000_2, .int .i64 x161001_2, .int .i64 x161002_2, .int .i64 x161003_2] 27 (0, 0)) (by (with_reducible repeat (first | refine blk_drewN ?_ _ | refine blk_drew ?_ | refine blk_alloc ?_ _)); exact BK160.out)) : gb176 ≠ gb160)); clear HO166; clear HO174; clear BK160; clear HB; have HO166 := n0_; have HO174 := n1_; have BK160 := n2_; have HB := n3_; have BK176 := n4_; have GW176 := n5_; have GE176 := n6_; have NB160_176 := n7_; have NB176_160 := n8_; clear n0_ n1_ n2_ n3_ n4_ n5_ n6_ n7_ n8_; clear hb hbox hg; have hnb44 := NB176_160.out; have hnc44 := NB160_176.out; have hcz45_0 : w43.cell? ⟨gb176, 0, none⟩ = some (.bool false) := (blk_cell BK176.out 0).trans rfl; have hcz45_1 : w43.cell? ⟨gb176, 1, none⟩ = some (.int .i64 0) := (blk_cell BK176.out 1).trans rfl; have hcz45_2 : w43.cell? ⟨gb176, 2, none⟩ = some (.int .i64 0) := (blk_cell BK176.out 2).trans rfl; have hcz45_3 : w43.cell? ⟨gb176, 3, none⟩ = some (.int .i64 0) := (blk_cell BK176.out 3).trans rfl; have hfz45_0 := blk_frozen BK176.out 0; have hfz45_1 := blk_frozen BK176.out 1; have hfz45_2 := blk_frozen BK176.out 2; have hfz45_3 := blk_frozen BK176.out 3; have p177 : 0 ≤ (x10_2 : Int) := of_decide_eq_true (by first | (with_reducible assumption) | assumption); have q177 : x10_2 < (l0.length : Int) := of_decide_eq_true (by first | (with_reducible assumption) | assumption); obtain ⟨ad177, A177_0, c177_0, e177, hx177_0, hl177_0, hi177_0⟩ := at_L1 HR0.out x10_2 p177 q177; obtain rfl : ad161 = ad177 := (by injection e177); have hn177_0 : ad161.block ≠ gb176 := Nat.ne_of_lt (Nat.lt_of_lt_of_le (by have := World.block_lt_of_cell? _ _ hx177_0; first | rwa [add_block] at this | exact this) GW176.out); have hn177_1 : ad161.block ≠ gb176 := Nat.ne_of_lt (Nat.lt_of_lt_of_le (by have := World.block_lt_of_cell? _ _ hx177_0; first | rwa [add_block] at this | exact this) GW176.out); have hn177_2 : ad161.block ≠ gb176 := Nat.ne_of_lt (Nat.lt_of_lt_of_le (by have := World.block_lt_of_cell? _ _ hx177_0; first | rwa [add_block] at this | exact this) GW176.out); have hn177_3 : ad161.block ≠ gb176 := Nat.ne_of_lt (Nat.lt_of_lt_of_le (by have := World.block_lt_of_cell? _ _ hx177_0; first | rwa [add_block] at this | exact this) GW176.out); replace hx177_0 := (HB.out.cell (World.block_lt_of_cell? w _ hx177_0)).trans hx177_0; have HR177_0 := Aside0.mk hi177_0; have HC177_0 := Aside0.mk hl177_0; clear hi177_0 hl177_0; replace hx177_0 := (cell_far (p := ⟨gb176, 0, none⟩) (by first | (rw [add_block]; exact hn177_0) | (show (Addr.add _ _).block ≠ _; rw [add_block]; exact hn177_0) | exact hn177_0) (.bool t168)).trans hx177_0; replace hx177_0 := (cell_far (p := ⟨gb176, 1, none⟩) (by first | (rw [add_block]; exact hn177_1) | (show (Addr.add _ _).block ≠ _; rw [add_block]; exact hn177_1) | exact hn177_1) (.int .i64 t169)).trans hx177_0; replace hx177_0 := (cell_far (p := ⟨gb176, 2, none⟩) (by first | (rw [add_block]; exact hn177_2) | (show (Addr.add _ _).block ≠ _; rw [add_block]; exact hn177_2) | exact hn177_2) (.int .i64 t170)).trans hx177_0; replace hx177_0 := (cell_far (p := ⟨gb176, 3, none⟩) (by first | (rw [add_block]; exact hn177_3) | (show (Addr.add _ _).block ≠ _; rw [add_block]; exact hn177_3) | exact hn177_3) (.int .i64 t171)).trans hx177_0; clear hn177_0; clear hn177_1; clear hn177_2; clear hn177_3; replace p177 := eq_true p177; replace q177 := eq_true q177; obtain ⟨Ao46, co46, eo46⟩ := Kd.R_slice HO174.out; subst eo46) | (go_at_call 8; (with_reducible refine (phaetonref01_SameBytes.calls _ _ t172 _ _ (rd_L1 l0 x10_2) true _ ?side1 ?side2 ?side3 ?side4 A37.out).mono ?_); (case side1 => refine (Kd.R_reads' (e := 5) (base := w.heap.size) (ok := fun k_ => (True ∧ some k_ ≠ (.slice Ao41 t163.length co41 : Value).ownBlock)) (n := t172.length) (c := co46) ?_).2.2; exact (by (with_reducible repeat (first | apply Kd.R_alloc | apply Kd.R_drewN | apply Kd.R_drew)); exact (Kd.R_mono (Kd.R_far (p := ⟨gb176, 3, none⟩) (Kd.R_far (p := ⟨gb176, 2, none⟩) (Kd.R_far (p := ⟨gb176, 1, none⟩) (Kd.R_far (p := ⟨gb176, 0, none⟩) (Kd.R_types HO174.out BK176.out (by decide)) (fun _ hk => hk.2) (.bool t168)) (fun _ hk => hk.2) (.int .i64 t169)) (fun _ hk => hk.2) (.int .i64 t170)) (fun _ hk => hk.2) (.int .i64 t171)) (fun _ h_ => h_.1)))); (case side2 => exact (Kd.R_reads' HO174.out).2.1); (case side3 => exact Kd.C_below HR177_0.out (by repeat (first | (with_reducible first | exact HB.out | apply below_alloc | apply pw_below_drewN | apply below_drew1 | refine below_set ?_ GE160.out | refine below_set ?_ GE176.out) | exact HB.out))); (case side4 => exact HC177_0.out); rintro e w' ⟨rfl, ⟨nd, rfl⟩⟩; have hcz47_0 : w43.cell? ⟨gb160, 0, none⟩ = some (.bool x161000_2) := (blk_cell BK160.out 0).trans rfl; have hcz47_1 : w43.cell? ⟨gb160, 1, none⟩ = some (.int .i64 x161001_2) := (blk_cell BK160.out 1).trans rfl; have hcz47_2 : w43.cell? ⟨gb160, 2, none⟩ = some (.int .i64 x161002_2) := (blk_cell BK160.out 2).trans rfl; have hcz47_3 : w43.cell? ⟨gb160, 3, none⟩ = some (.int .i64 x161003_2) := (blk_cell BK160.out 3).trans rfl; have hfz47_0 := blk_frozen BK160.out 0; have hfz47_1 := blk_frozen BK160.out 1; have hfz47_2 := blk_frozen BK160.out 2; have hfz47_3 := blk_frozen BK160.out 3))
                                go_roundg k2
                                case measure => have := HJ4.out; have := HK2.out; omega
                                case rel => exact ⟨(x10_2), (wrap64 (x10_2 + 1)), (t168), (t169), (t170), (t171), (by first | rfl | (simp; done) | (simp [*]; done)), (by first | rfl | (simp; done) | (simp [*]; done)), H', ⟨by have := HJ4.out; have := HK2.out; omega⟩, ⟨by (with_reducible repeat (first | refine blk_drewN ?_ _ | refine blk_drew ?_ | refine blk_alloc ?_ _)); refine blk_put (cs := #[.bool t168, .int .i64 t169, .int .i64 t170, .int .i64 x161003_2]) ?_ 3 _ rfl; (with_reducible repeat (first | refine blk_drewN ?_ _ | refine blk_drew ?_ | refine blk_alloc ?_ _)); refine blk_put (cs := #[.bool t168, .int .i64 t169, .int .i64 x161002_2, .int .i64 x161003_2]) ?_ 2 _ rfl; (with_reducible repeat (first | refine blk_drewN ?_ _ | refine blk_drew ?_ | refine blk_alloc ?_ _)); refine blk_put (cs := #[.bool t168, .int .i64 x161001_2, .int .i64 x161002_2, .int .i64 x161003_2]) ?_ 1 _ rfl; (with_reducible repeat (first | refine blk_drewN ?_ _ | refine blk_drew ?_ | refine blk_alloc ?_ _)); refine blk_put (cs := #[.bool x161000_2, .int .i64 x161001_2, .int .i64 x161002_2, .int .i64 x161003_2]) ?_ 0 _ rfl; (with_reducible repeat (first | refine blk_drewN ?_ _ | refine blk_drew ?_ | refine blk_alloc ?_ _)); refine blk_far ?_ NB160_176.out _; (with_reducible repeat (first | refine blk_drewN ?_ _ | refine blk_drew ?_ | refine blk_alloc ?_ _)); refine blk_far ?_ NB160_176.out _; (with_reducible repeat (first | refine blk_drewN ?_ _ | refine blk_drew ?_ | refine blk_alloc ?_ _)); refine blk_far ?_ NB160_176.out _; (with_reducible repeat (first | refine blk_drewN ?_ _ | refine blk_drew ?_ | refine blk_alloc ?_ _)); refine blk_far ?_ NB160_176.out _; (with_reducible repeat (first | refine blk_drewN ?_ _ | refine blk_drew ?_ | refine blk_alloc ?_ _)); exact BK160.out⟩, ⟨by repeat (first | (with_reducible first | exact HB.out | apply below_alloc | apply pw_below_drewN | apply below_drew1 | refine below_set ?_ GE160.out | refine below_set ?_ GE176.out) | exact HB.out)⟩⟩
                              · replace c38 := Bool.eq_false_iff.mpr c38
                                subst c38
                                have H1 : (none) = some r := by rw [if_neg (show ¬ (false = true) by decide)] at H; exact H
                                clear H
                                have H := H1
                                clear H1
                                exact absurd H (by simp)
                          · rw [if_neg c25] at H
                            exact absurd H (by simp)
                        · rw [if_neg c24] at H
                          have c24b0 : decide (x9_2 < 0) = false := decide_eq_false c24
                          clear c24
                          by_cases c48 : (Int.tmod (wrap64 (x10_2 - x9_2)) 15) = 0
                          · rw [if_pos c48] at H
                            have c48b0 : ((Int.tmod (wrap64 (x10_2 - x9_2)) 15) == 0) = true := beq_iff_eq.mpr c48
                            have c48b1 : ((Int.tmod (wrap64 (x10_2 - x9_2)) 15) != 0) = false := bne_eq_false_iff_eq.mpr c48
                            clear c48
                            by_cases c49 : t175 = 3
                            · rw [if_pos c49] at H
                              have c49b0 : (t175 == 3) = true := beq_iff_eq.mpr c49
                              have c49b1 : (t175 != 3) = false := bne_eq_false_iff_eq.mpr c49
                              clear c49
                              by_cases c50 : 3 = 3
                              · rw [if_pos c50] at H
                                have c50b0 : (3 == 3) = true := beq_iff_eq.mpr c50
                                have c50b1 : (3 != 3) = false := bne_eq_false_iff_eq.mpr c50
                                clear c50
                                by_cases c51 : (t172.length : Int) = 0
                                · rw [if_pos c51] at H
                                  have c51b0 : ((t172.length : Int) == 0) = true := beq_iff_eq.mpr c51
                                  have c51b1 : ((t172.length : Int) != 0) = false := bne_eq_false_iff_eq.mpr c51
                                  clear c51
                                  have H' := Aside0.mk H
                                  clear H
                                  have p161 : 0 ≤ (x10_2 : Int) := of_decide_eq_true (by first | (with_reducible assumption) | assumption)
                                  have q161 : x10_2 < (l0.length : Int) := of_decide_eq_true (by first | (with_reducible assumption) | assumption)
                                  obtain ⟨ad161, A161_0, c161_0, e161, hx161_0, hl161_0, hi161_0⟩ := at_L1 HR0.out x10_2 p161 q161
                                  cases e161
                                  replace hx161_0 := (HB.out.cell (World.block_lt_of_cell? w _ hx161_0)).trans hx161_0
                                  have HR161_0 := Aside0.mk hi161_0
                                  have HC161_0 := Aside0.mk hl161_0
                                  clear hi161_0 hl161_0
                                  replace p161 := eq_true p161
                                  replace q161 := eq_true q161
                                  have p162 : 0 ≤ (x10_2 : Int) := of_decide_eq_true (by first | (with_reducible assumption) | assumption)
                                  have q162 : x10_2 < (l0.length : Int) := of_decide_eq_true (by first | (with_reducible assumption) | assumption)
                                  obtain ⟨ad162, A162_0, c162_0, e162, hx162_0, hl162_0, hi162_0⟩ := at_L1 HR0.out x10_2 p162 q162
                                  obtain rfl : ad161 = ad162 := (by injection e162)
                                  replace hx162_0 := (HB.out.cell (World.block_lt_of_cell? w _ hx162_0)).trans hx162_0
                                  have HR162_0 := Aside0.mk hi162_0
                                  have HC162_0 := Aside0.mk hl162_0
                                  clear hi162_0 hl162_0
                                  replace p162 := eq_true p162
                                  replace q162 := eq_true q162
                                  have ea_ := Option.some.inj (hx161_0.symm.trans hx162_0)
                                  injection ea_ with ea_ en_ ec_
                                  subst ea_
                                  subst ec_
                                  clear en_
                                  go_wp2_with (first | ((with_reducible refine gate_store (t := 27) (p := 13) rfl ?_); refine HW.store_box2 rfl rfl 27 _ _ rfl rfl rfl BK176.out rfl (by kernel_rfl) (by intro q hq; simp only [List.mem_cons, List.not_mem_nil, or_false] at hq; rcases hq with rfl | rfl | rfl | rfl <;> rfl) ?_; intro w1_ hw1_ hk1_; simp only [List.toList_toArray, World.setCells, Nat.zero_add, Nat.reduceAdd] at hw1_; subst hw1_; have hcb176_0 := (blk_cell hk1_ 0).trans rfl; have hfb176_0 := blk_frozen hk1_ 0; have hcb176_1 := (blk_cell hk1_ 1).trans rfl; have hfb176_1 := blk_frozen hk1_ 1; have hcb176_2 := (blk_cell hk1_ 2).trans rfl; have hfb176_2 := blk_frozen hk1_ 2; have hcb176_3 := (blk_cell hk1_ 3).trans rfl; have hfb176_3 := blk_frozen hk1_ 3; clear hk1_) | ((with_reducible refine gate_store (t := 27) (p := 8) rfl ?_); refine HW.store_box2 rfl rfl 27 _ _ rfl rfl rfl BK160.out rfl (by kernel_rfl) (by intro q hq; simp only [List.mem_cons, List.not_mem_nil, or_false] at hq; rcases hq with rfl | rfl | rfl | rfl <;> rfl) ?_; intro w1_ hw1_ hk1_; simp only [List.toList_toArray, World.setCells, Nat.zero_add, Nat.reduceAdd] at hw1_; subst hw1_; have hcb160_0 := (blk_cell hk1_ 0).trans rfl; have hfb160_0 := blk_frozen hk1_ 0; have hcb160_1 := (blk_cell hk1_ 1).trans rfl; have hfb160_1 := blk_frozen hk1_ 1; have hcb160_2 := (blk_cell hk1_ 2).trans rfl; have hfb160_2 := blk_frozen hk1_ 2; have hcb160_3 := (blk_cell hk1_ 3).trans rfl; have hfb160_3 := blk_frozen hk1_ 3; clear hk1_) | ((with_reducible refine gate_callee (f := 6) rfl ?_); refine goesL_ (some 53) rfl rfl Try.func6 (by kernel_rfl) rfl #[.int .i64 (wrap64 (a2)), .int .i64 (Int.tmod x10_2 15), .slice A161_0 (rd_L1 l0 x10_2).length c161_0] rfl (by (try simp only [List.map_toArray, List.map_cons, List.map_nil]); first | done | rfl | (simp only [List.length_drop, List.length_take]; rfl)) ?_; (with_reducible refine (trust_Wrap.calls (wrap64 (a2)) (Int.tmod x10_2 15) _ _ (rd_L1 l0 x10_2) t163 true _ ?side1 ?side2 A18.out).mono ?_); (case side1 => repeat (first | exact (Kd.C_below HR162_0.out HB.out) | (with_reducible refine Kd.C_alloc ?_ _) | (with_reducible refine Kd.C_drewN ?_ _) | (with_reducible refine Kd.C_drew ?_))); (case side2 => exact HC162_0.out); rintro e w52 ⟨v165, rfl, ho0, hb⟩; refine ⟨_, rfl, ?_⟩; have n0_ := Aside0.mk (Kd.R_lower ho0 (below_size (by repeat (first | (with_reducible first | exact HB.out | apply below_alloc | apply pw_below_drewN | apply below_drew1 | refine below_set ?_ GE160.out) | exact HB.out)))); have n1_ := Aside0.mk (blk_below (g := gb160) (o := .cells #[.bool x161000_2, .int .i64 x161001_2, .int .i64 x161002_2, .int .i64 x161003_2] 27 (0, 0)) (by (with_reducible repeat (first | refine blk_drewN ?_ _ | refine blk_drew ?_ | refine blk_alloc ?_ _)); exact BK160.out) hb); have n2_ := Aside0.mk (below_step (by repeat (first | (with_reducible first | exact HB.out | apply below_alloc | apply pw_below_drewN | apply below_drew1 | refine below_set ?_ GE160.out) | exact HB.out)) hb); clear BK160; clear HB; have HO166 := n0_; have BK160 := n1_; have HB := n2_; clear n0_ n1_ n2_; (try clear hb); (try clear hb2); (try clear hk); (try clear hi); (try clear ho0); have p167 : 0 ≤ (x10_2 : Int) := of_decide_eq_true (by first | (with_reducible assumption) | assumption); have q167 : x10_2 < (l1.length : Int) := of_decide_eq_true (by first | (with_reducible assumption) | assumption); obtain ⟨ad167, e167, hx167_0⟩ := Kd.at_bool HR1.out x10_2 p167 q167; (try rw [← Nbq21.out] at hx167_0); cases e167; replace hx167_0 := (HB.out.cell (World.block_lt_of_cell? w _ hx167_0)).trans hx167_0; replace p167 := eq_true p167; replace q167 := eq_true q167; have hcz53_0 : w52.cell? ⟨gb160, 0, none⟩ = some (.bool x161000_2) := (blk_cell BK160.out 0).trans rfl; have hcz53_1 : w52.cell? ⟨gb160, 1, none⟩ = some (.int .i64 x161001_2) := (blk_cell BK160.out 1).trans rfl; have hcz53_2 : w52.cell? ⟨gb160, 2, none⟩ = some (.int .i64 x161002_2) := (blk_cell BK160.out 2).trans rfl; have hcz53_3 : w52.cell? ⟨gb160, 3, none⟩ = some (.int .i64 x161003_2) := (blk_cell BK160.out 3).trans rfl; have hfz53_0 := blk_frozen BK160.out 0; have hfz53_1 := blk_frozen BK160.out 1; have hfz53_2 := blk_frozen BK160.out 2; have hfz53_3 := blk_frozen BK160.out 3; obtain ⟨Ao54, co54, eo54⟩ := Kd.R_slice HO166.out; subst eo54) | ((with_reducible refine gate_callee (f := 7) rfl ?_); refine goesL_ (some 68) rfl rfl Try.func7 (by kernel_rfl) rfl #[.agg #[.bool x161000_2, .int .i64 x161001_2, .int .i64 x161002_2, .int .i64 x161003_2], .int .i64 (wrap64 (a2)), .slice Ao54 t163.length co54, .int .i64 14] rfl (by (try simp only [List.map_toArray, List.map_cons, List.map_nil]); first | done | rfl | (simp only [List.length_drop, List.length_take]; rfl)) ?_; (with_reducible refine (trust_Check.calls x161000_2 x161001_2 x161002_2 x161003_2 (wrap64 (a2)) _ _ t163 14 t168 t169 t170 t171 t172 t175 _ ?side1 ?side2 A23.out).mono ?_); (case side1 => repeat (first | exact (Kd.R_reads' HO166.out).2.2 | (with_reducible refine Kd.C_alloc ?_ _) | (with_reducible refine Kd.C_drewN ?_ _) | (with_reducible refine Kd.C_drew ?_))); (case side2 => exact (Kd.R_reads' HO166.out).2.1); rintro e w55 ⟨v173, rfl, ho0, hb⟩; refine ⟨_, rfl, ?_⟩; have n0_ := Aside0.mk (Kd.R_elder' (by (with_reducible repeat (first | apply Kd.R_alloc | apply Kd.R_drewN | apply Kd.R_drew)); exact HO166.out) (Kd.R_base ho0) hb); have n1_ := Aside0.mk (Kd.R_lower (Kd.R_new' ho0 (Kd.R_lt (by (with_reducible repeat (first | apply Kd.R_alloc | apply Kd.R_drewN | apply Kd.R_drew)); exact HO166.out))) (below_size (by repeat (first | (with_reducible first | exact HB.out | apply below_alloc | apply pw_below_drewN | apply below_drew1 | refine below_set ?_ GE160.out) | exact HB.out)))); have n2_ := Aside0.mk (blk_below (g := gb160) (o := .cells #[.bool x161000_2, .int .i64 x161001_2, .int .i64 x161002_2, .int .i64 x161003_2] 27 (0, 0)) (by (with_reducible repeat (first | refine blk_drewN ?_ _ | refine blk_drew ?_ | refine blk_alloc ?_ _)); exact BK160.out) hb); have n3_ := Aside0.mk (below_step (by repeat (first | (with_reducible first | exact HB.out | apply below_alloc | apply pw_below_drewN | apply below_drew1 | refine below_set ?_ GE160.out) | exact HB.out)) hb); clear HO166; clear BK160; clear HB; have HO166 := n0_; have HO174 := n1_; have BK160 := n2_; have HB := n3_; clear n0_ n1_ n2_ n3_; (try clear hb); (try clear hb2); (try clear hk); (try clear hi); (try clear ho0)) | ((with_reducible refine gate_dst (N := 13) rfl ?_); (try (refine gate_guard (by rfl) ?_; dsimp only)); refine box_event ?hg (N := 13) ?hd (cs := #[.bool false, .int .i64 0, .int .i64 0, .int .i64 0]) (t := 27) ?hr ?_; (case hd => rfl); (case hg => rfl); (case hr => first | (go_simp; done) | (go_simp; rfl)); intro gb176 hg w56 hbox hb; have n0_ := Aside0.mk (Kd.R_below (by (with_reducible repeat (first | apply Kd.R_alloc | apply Kd.R_drewN | apply Kd.R_drew)); exact HO166.out) hb); have n1_ := Aside0.mk (Kd.R_below (by (with_reducible repeat (first | apply Kd.R_alloc | apply Kd.R_drewN | apply Kd.R_drew)); exact HO174.out) hb); have n2_ := Aside0.mk (blk_below (g := gb160) (o := .cells #[.bool x161000_2, .int .i64 x161001_2, .int .i64 x161002_2, .int .i64 x161003_2] 27 (0, 0)) (by (with_reducible repeat (first | refine blk_drewN ?_ _ | refine blk_drew ?_ | refine blk_alloc ?_ _)); exact BK160.out) hb); have n3_ := Aside0.mk (below_step (by repeat (first | (with_reducible first | exact HB.out | apply below_alloc | apply pw_below_drewN | apply below_drew1 | refine below_set ?_ GE160.out) | exact HB.out)) hb); have n4_ := Aside0.mk (hbox); have n5_ := Aside0.mk ((by rw [hg]; exact (below_size (by repeat (first | (with_reducible first | exact HB.out | apply below_alloc | apply pw_below_drewN | apply below_drew1 | refine below_set ?_ GE160.out) | exact HB.out))) : w.heap.size ≤ gb176)); have n6_ := Aside0.mk ((by rw [hg]; exact (below_size (by repeat (first | (with_reducible first | exact HB.out | apply below_alloc | apply pw_below_drewN | apply below_drew1 | refine below_set ?_ GE160.out) | exact HB.out))) : w.heap.size ≤ gb176)); have n7_ := Aside0.mk ((by rw [hg]; exact Nat.ne_of_lt (blk_lt (g := gb160) (o := .cells #[.bool x161000_2, .int .i64 x161001_2, .int .i64 x161002_2, .int .i64 x161003_2] 27 (0, 0)) (by (with_reducible repeat (first | refine blk_drewN ?_ _ | refine blk_drew ?_ | refine blk_alloc ?_ _)); exact BK160.out)) : gb160 ≠ gb176)); have n8_ := Aside0.mk ((by rw [hg]; exact Nat.ne_of_gt (blk_lt (g := gb160) (o := .cells #[.bool x161000_2, .int .i64 x161001_2, .int .i64 x161002_2, .int .i64 x161003_2] 27 (0, 0)) (by (with_reducible repeat (first | refine blk_drewN ?_ _ | refine blk_drew ?_ | refine blk_alloc ?_ _)); exact BK160.out)) : gb176 ≠ gb160)); clear HO166; clear HO174; clear BK160; clear HB; have HO166 := n0_; have HO174 := n1_; have BK160 := n2_; have HB := n3_; have BK176 := n4_; have GW176 := n5_; have GE176 := n6_; have NB160_176 := n7_; have NB176_160 := n8_; clear n0_ n1_ n2_ n3_ n4_ n5_ n6_ n7_ n8_; clear hb hbox hg; have hnb57 := NB176_160.out; have hnc57 := NB160_176.out; have hcz58_0 : w56.cell? ⟨gb176, 0, none⟩ = some (.bool false) := (blk_cell BK176.out 0).trans rfl; have hcz58_1 : w56.cell? ⟨gb176, 1, none⟩ = some (.int .i64 0) := (blk_cell BK176.out 1).trans rfl; have hcz58_2 : w56.cell? ⟨gb176, 2, none⟩ = some (.int .i64 0) := (blk_cell BK176.out 2).trans rfl; have hcz58_3 : w56.cell? ⟨gb176, 3, none⟩ = some (.int .i64 0) := (blk_cell BK176.out 3).trans rfl; have hfz58_0 := blk_frozen BK176.out 0; have hfz58_1 := blk_frozen BK176.out 1; have hfz58_2 := blk_frozen BK176.out 2; have hfz58_3 := blk_frozen BK176.out 3; obtain ⟨Ao59, co59, eo59⟩ := Kd.R_slice HO174.out; subst eo59; have hcz60_0 : w56.cell? ⟨gb160, 0, none⟩ = some (.bool x161000_2) := (blk_cell BK160.out 0).trans rfl; have hcz60_1 : w56.cell? ⟨gb160, 1, none⟩ = some (.int .i64 x161001_2) := (blk_cell BK160.out 1).trans rfl; have hcz60_2 : w56.cell? ⟨gb160, 2, none⟩ = some (.int .i64 x161002_2) := (blk_cell BK160.out 2).trans rfl; have hcz60_3 : w56.cell? ⟨gb160, 3, none⟩ = some (.int .i64 x161003_2) := (blk_cell BK160.out 3).trans rfl; have hfz60_0 := blk_frozen BK160.out 0; have hfz60_1 := blk_frozen BK160.out 1; have hfz60_2 := blk_frozen BK160.out 2; have hfz60_3 := blk_frozen BK160.out 3))
                                  go_roundg k2
                                  case measure => have := HJ4.out; have := HK2.out; omega
                                  case rel => exact ⟨(x10_2), (wrap64 (x10_2 + 1)), (t168), (t169), (t170), (t171), (by first | rfl | (simp; done) | (simp [*]; done)), (by first | rfl | (simp; done) | (simp [*]; done)), H', ⟨by have := HJ4.out; have := HK2.out; omega⟩, ⟨by (with_reducible repeat (first | refine blk_drewN ?_ _ | refine blk_drew ?_ | refine blk_alloc ?_ _)); refine blk_put (cs := #[.bool t168, .int .i64 t169, .int .i64 t170, .int .i64 x161003_2]) ?_ 3 _ rfl; (with_reducible repeat (first | refine blk_drewN ?_ _ | refine blk_drew ?_ | refine blk_alloc ?_ _)); refine blk_put (cs := #[.bool t168, .int .i64 t169, .int .i64 x161002_2, .int .i64 x161003_2]) ?_ 2 _ rfl; (with_reducible repeat (first | refine blk_drewN ?_ _ | refine blk_drew ?_ | refine blk_alloc ?_ _)); refine blk_put (cs := #[.bool t168, .int .i64 x161001_2, .int .i64 x161002_2, .int .i64 x161003_2]) ?_ 1 _ rfl; (with_reducible repeat (first | refine blk_drewN ?_ _ | refine blk_drew ?_ | refine blk_alloc ?_ _)); refine blk_put (cs := #[.bool x161000_2, .int .i64 x161001_2, .int .i64 x161002_2, .int .i64 x161003_2]) ?_ 0 _ rfl; (with_reducible repeat (first | refine blk_drewN ?_ _ | refine blk_drew ?_ | refine blk_alloc ?_ _)); refine blk_far ?_ NB160_176.out _; (with_reducible repeat (first | refine blk_drewN ?_ _ | refine blk_drew ?_ | refine blk_alloc ?_ _)); refine blk_far ?_ NB160_176.out _; (with_reducible repeat (first | refine blk_drewN ?_ _ | refine blk_drew ?_ | refine blk_alloc ?_ _)); refine blk_far ?_ NB160_176.out _; (with_reducible repeat (first | refine blk_drewN ?_ _ | refine blk_drew ?_ | refine blk_alloc ?_ _)); refine blk_far ?_ NB160_176.out _; (with_reducible repeat (first | refine blk_drewN ?_ _ | refine blk_drew ?_ | refine blk_alloc ?_ _)); exact BK160.out⟩, ⟨by repeat (first | (with_reducible first | exact HB.out | apply below_alloc | apply pw_below_drewN | apply below_drew1 | refine below_set ?_ GE160.out | refine below_set ?_ GE176.out) | exact HB.out)⟩⟩
                                · rw [if_neg c51] at H
                                  exact absurd H (by simp)
                              · exact absurd (by decide) c50
                            · rw [if_neg c49] at H
                              exact absurd H (by simp)
                          · rw [if_neg c48] at H
                            have c48b0 : ((Int.tmod (wrap64 (x10_2 - x9_2)) 15) == 0) = false := beq_eq_false_iff_ne.mpr c48
                            have c48b1 : ((Int.tmod (wrap64 (x10_2 - x9_2)) 15) != 0) = true := bne_iff_ne.mpr c48
                            by_cases c72 : (Int.tmod (wrap64 (x10_2 - x9_2)) 15) = 1
                            · rw [if_pos c72] at H
                              have c72b0 : ((Int.tmod (wrap64 (x10_2 - x9_2)) 15) == 1) = true := beq_iff_eq.mpr c72
                              have c72b1 : ((Int.tmod (wrap64 (x10_2 - x9_2)) 15) != 1) = false := bne_eq_false_iff_eq.mpr c72
                              clear c72
                              by_cases c73 : t175 = 1
                              · rw [if_pos c73] at H
                                have c73b0 : (t175 == 1) = true := beq_iff_eq.mpr c73
                                have c73b1 : (t175 != 1) = false := bne_eq_false_iff_eq.mpr c73
                                clear c73
                                by_cases c74 : 1 = 3
                                · exact absurd c74 (by decide)
                                · rw [if_neg c74] at H
                                  have c74b0 : (1 == 3) = false := beq_eq_false_iff_ne.mpr c74
                                  have c74b1 : (1 != 3) = true := bne_iff_ne.mpr c74
                                  replace H := Option.bind_eq_some_iff.mp H
                                  obtain ⟨t182, A850, H⟩ := H
                                  replace H : (if t182 = true then (phaetontop_TopLost.l0 k2 l0 l1 a2 t155 x10_2 (wrap64 (x10_2 + 1)) t168 t169 t170 t171) else (none)) = some r := H
                                  have A85 := Aside0.mk A850
                                  clear A850
                                  by_cases c86 : t182 = true
                                  · subst c86
                                    have H1 : (phaetontop_TopLost.l0 k2 l0 l1 a2 t155 x10_2 (wrap64 (x10_2 + 1)) t168 t169 t170 t171) = some r := by rw [if_pos rfl] at H; exact H
                                    clear H
                                    have H := H1
                                    clear H1
                                    have H' := Aside0.mk H
                                    clear H
                                    have p161 : 0 ≤ (x10_2 : Int) := of_decide_eq_true (by first | (with_reducible assumption) | assumption)
                                    have q161 : x10_2 < (l0.length : Int) := of_decide_eq_true (by first | (with_reducible assumption) | assumption)
                                    obtain ⟨ad161, A161_0, c161_0, e161, hx161_0, hl161_0, hi161_0⟩ := at_L1 HR0.out x10_2 p161 q161
                                    cases e161
                                    replace hx161_0 := (HB.out.cell (World.block_lt_of_cell? w _ hx161_0)).trans hx161_0
                                    have HR161_0 := Aside0.mk hi161_0
                                    have HC161_0 := Aside0.mk hl161_0
                                    clear hi161_0 hl161_0
                                    replace p161 := eq_true p161
                                    replace q161 := eq_true q161
                                    have p162 : 0 ≤ (x10_2 : Int) := of_decide_eq_true (by first | (with_reducible assumption) | assumption)
                                    have q162 : x10_2 < (l0.length : Int) := of_decide_eq_true (by first | (with_reducible assumption) | assumption)
                                    obtain ⟨ad162, A162_0, c162_0, e162, hx162_0, hl162_0, hi162_0⟩ := at_L1 HR0.out x10_2 p162 q162
                                    obtain rfl : ad161 = ad162 := (by injection e162)
                                    replace hx162_0 := (HB.out.cell (World.block_lt_of_cell? w _ hx162_0)).trans hx162_0
                                    have HR162_0 := Aside0.mk hi162_0
                                    have HC162_0 := Aside0.mk hl162_0
                                    clear hi162_0 hl162_0
                                    replace p162 := eq_true p162
                                    replace q162 := eq_true q162
                                    have ea_ := Option.some.inj (hx161_0.symm.trans hx162_0)
                                    injection ea_ with ea_ en_ ec_
                                    subst ea_
                                    subst ec_
                                    clear en_
                                    go_wp2_with (first | ((with_reducible refine gate_store (t := 27) (p := 13) rfl ?_); refine HW.store_box2 rfl rfl 27 _ _ rfl rfl rfl BK176.out rfl (by kernel_rfl) (by intro q hq; simp only [List.mem_cons, List.not_mem_nil, or_false] at hq; rcases hq with rfl | rfl | rfl | rfl <;> rfl) ?_; intro w1_ hw1_ hk1_; simp only [List.toList_toArray, World.setCells, Nat.zero_add, Nat.reduceAdd] at hw1_; subst hw1_; have hcb176_0 := (blk_cell hk1_ 0).trans rfl; have hfb176_0 := blk_frozen hk1_ 0; have hcb176_1 := (blk_cell hk1_ 1).trans rfl; have hfb176_1 := blk_frozen hk1_ 1; have hcb176_2 := (blk_cell hk1_ 2).trans rfl; have hfb176_2 := blk_frozen hk1_ 2; have hcb176_3 := (blk_cell hk1_ 3).trans rfl; have hfb176_3 := blk_frozen hk1_ 3; clear hk1_) | ((with_reducible refine gate_store (t := 27) (p := 8) rfl ?_); refine HW.store_box2 rfl rfl 27 _ _ rfl rfl rfl BK160.out rfl (by kernel_rfl) (by intro q hq; simp only [List.mem_cons, List.not_mem_nil, or_false] at hq; rcases hq with rfl | rfl | rfl | rfl <;> rfl) ?_; intro w1_ hw1_ hk1_; simp only [List.toList_toArray, World.setCells, Nat.zero_add, Nat.reduceAdd] at hw1_; subst hw1_; have hcb160_0 := (blk_cell hk1_ 0).trans rfl; have hfb160_0 := blk_frozen hk1_ 0; have hcb160_1 := (blk_cell hk1_ 1).trans rfl; have hfb160_1 := blk_frozen hk1_ 1; have hcb160_2 := (blk_cell hk1_ 2).trans rfl; have hfb160_2 := blk_frozen hk1_ 2; have hcb160_3 := (blk_cell hk1_ 3).trans rfl; have hfb160_3 := blk_frozen hk1_ 3; clear hk1_) | ((with_reducible refine gate_callee (f := 6) rfl ?_); refine goesL_ (some 53) rfl rfl Try.func6 (by kernel_rfl) rfl #[.int .i64 (wrap64 (a2)), .int .i64 (Int.tmod x10_2 15), .slice A161_0 (rd_L1 l0 x10_2).length c161_0] rfl (by (try simp only [List.map_toArray, List.map_cons, List.map_nil]); first | done | rfl | (simp only [List.length_drop, List.length_take]; rfl)) ?_; (with_reducible refine (trust_Wrap.calls (wrap64 (a2)) (Int.tmod x10_2 15) _ _ (rd_L1 l0 x10_2) t163 true _ ?side1 ?side2 A18.out).mono ?_); (case side1 => repeat (first | exact (Kd.C_below HR162_0.out HB.out) | (with_reducible refine Kd.C_alloc ?_ _) | (with_reducible refine Kd.C_drewN ?_ _) | (with_reducible refine Kd.C_drew ?_))); (case side2 => exact HC162_0.out); rintro e w87 ⟨v165, rfl, ho0, hb⟩; refine ⟨_, rfl, ?_⟩; have n0_ := Aside0.mk (Kd.R_lower ho0 (below_size (by repeat (first | (with_reducible first | exact HB.out | apply below_alloc | apply pw_below_drewN | apply below_drew1 | refine below_set ?_ GE160.out) | exact HB.out)))); have n1_ := Aside0.mk (blk_below (g := gb160) (o := .cells #[.bool x161000_2, .int .i64 x161001_2, .int .i64 x161002_2, .int .i64 x161003_2] 27 (0, 0)) (by (with_reducible repeat (first | refine blk_drewN ?_ _ | refine blk_drew ?_ | refine blk_alloc ?_ _)); exact BK160.out) hb); have n2_ := Aside0.mk (below_step (by repeat (first | (with_reducible first | exact HB.out | apply below_alloc | apply pw_below_drewN | apply below_drew1 | refine below_set ?_ GE160.out) | exact HB.out)) hb); clear BK160; clear HB; have HO166 := n0_; have BK160 := n1_; have HB := n2_; clear n0_ n1_ n2_; (try clear hb); (try clear hb2); (try clear hk); (try clear hi); (try clear ho0); have p167 : 0 ≤ (x10_2 : Int) := of_decide_eq_true (by first | (with_reducible assumption) | assumption); have q167 : x10_2 < (l1.length : Int) := of_decide_eq_true (by first | (with_reducible assumption) | assumption); obtain ⟨ad167, e167, hx167_0⟩ := Kd.at_bool HR1.out x10_2 p167 q167; (try rw [← Nbq21.out] at hx167_0); cases e167; replace hx167_0 := (HB.out.cell (World.block_lt_of_cell? w _ hx167_0)).trans hx167_0; replace p167 := eq_true p167; replace q167 := eq_true q167; have hcz88_0 : w87.cell? ⟨gb160, 0, none⟩ = some (.bool x161000_2) := (blk_cell BK160.out 0).trans rfl; have hcz88_1 : w87.cell? ⟨gb160, 1, none⟩ = some (.int .i64 x161001_2) := (blk_cell BK160.out 1).trans rfl; have hcz88_2 : w87.cell? ⟨gb160, 2, none⟩ = some (.int .i64 x161002_2) := (blk_cell BK160.out 2).trans rfl; have hcz88_3 : w87.cell? ⟨gb160, 3, none⟩ = some (.int .i64 x161003_2) := (blk_cell BK160.out 3).trans rfl; have hfz88_0 := blk_frozen BK160.out 0; have hfz88_1 := blk_frozen BK160.out 1; have hfz88_2 := blk_frozen BK160.out 2; have hfz88_3 := blk_frozen BK160.out 3; obtain ⟨Ao89, co89, eo89⟩ := Kd.R_slice HO166.out; subst eo89) | ((with_reducible refine gate_callee (f := 7) rfl ?_); refine goesL_ (some 68) rfl rfl Try.func7 (by kernel_rfl) rfl #[.agg #[.bool x161000_2, .int .i64 x161001_2, .int .i64 x161002_2, .int .i64 x161003_2], .int .i64 (wrap64 (a2)), .slice Ao89 t163.length co89, .int .i64 14] rfl (by (try simp only [List.map_toArray, List.map_cons, List.map_nil]); first | done | rfl | (simp only [List.length_drop, List.length_take]; rfl)) ?_; (with_reducible refine (trust_Check.calls x161000_2 x161001_2 x161002_2 x161003_2 (wrap64 (a2)) _ _ t163 14 t168 t169 t170 t171 t172 t175 _ ?side1 ?side2 A23.out).mono ?_); (case side1 => repeat (first | exact (Kd.R_reads' HO166.out).2.2 | (with_reducible refine Kd.C_alloc ?_ _) | (with_reducible refine Kd.C_drewN ?_ _) | (with_reducible refine Kd.C_drew ?_))); (case side2 => exact (Kd.R_reads' HO166.out).2.1); rintro e w90 ⟨v173, rfl, ho0, hb⟩; refine ⟨_, rfl, ?_⟩; have n0_ := Aside0.mk (Kd.R_elder' (by (with_reducible repeat (first | apply Kd.R_alloc | apply Kd.R_drewN | apply Kd.R_drew)); exact HO166.out) (Kd.R_base ho0) hb); have n1_ := Aside0.mk (Kd.R_lower (Kd.R_new' ho0 (Kd.R_lt (by (with_reducible repeat (first | apply Kd.R_alloc | apply Kd.R_drewN | apply Kd.R_drew)); exact HO166.out))) (below_size (by repeat (first | (with_reducible first | exact HB.out | apply below_alloc | apply pw_below_drewN | apply below_drew1 | refine below_set ?_ GE160.out) | exact HB.out)))); have n2_ := Aside0.mk (blk_below (g := gb160) (o := .cells #[.bool x161000_2, .int .i64 x161001_2, .int .i64 x161002_2, .int .i64 x161003_2] 27 (0, 0)) (by (with_reducible repeat (first | refine blk_drewN ?_ _ | refine blk_drew ?_ | refine blk_alloc ?_ _)); exact BK160.out) hb); have n3_ := Aside0.mk (below_step (by repeat (first | (with_reducible first | exact HB.out | apply below_alloc | apply pw_below_drewN | apply below_drew1 | refine below_set ?_ GE160.out) | exact HB.out)) hb); clear HO166; clear BK160; clear HB; have HO166 := n0_; have HO174 := n1_; have BK160 := n2_; have HB := n3_; clear n0_ n1_ n2_ n3_; (try clear hb); (try clear hb2); (try clear hk); (try clear hi); (try clear ho0)) | ((with_reducible refine gate_dst (N := 13) rfl ?_); (try (refine gate_guard (by rfl) ?_; dsimp only)); refine box_event ?hg (N := 13) ?hd (cs := #[.bool false, .int .i64 0, .int .i64 0, .int .i64 0]) (t := 27) ?hr ?_; (case hd => rfl); (case hg => rfl); (case hr => first | (go_simp; done) | (go_simp; rfl)); intro gb176 hg w91 hbox hb; have n0_ := Aside0.mk (Kd.R_below (by (with_reducible repeat (first | apply Kd.R_alloc | apply Kd.R_drewN | apply Kd.R_drew)); exact HO166.out) hb); have n1_ := Aside0.mk (Kd.R_below (by (with_reducible repeat (first | apply Kd.R_alloc | apply Kd.R_drewN | apply Kd.R_drew)); exact HO174.out) hb); have n2_ := Aside0.mk (blk_below (g := gb160) (o := .cells #[.bool x161000_2, .int .i64 x161001_2, .int .i64 x161002_2, .int .i64 x161003_2] 27 (0, 0)) (by (with_reducible repeat (first | refine blk_drewN ?_ _ | refine blk_drew ?_ | refine blk_alloc ?_ _)); exact BK160.out) hb); have n3_ := Aside0.mk (below_step (by repeat (first | (with_reducible first | exact HB.out | apply below_alloc | apply pw_below_drewN | apply below_drew1 | refine below_set ?_ GE160.out) | exact HB.out)) hb); have n4_ := Aside0.mk (hbox); have n5_ := Aside0.mk ((by rw [hg]; exact (below_size (by repeat (first | (with_reducible first | exact HB.out | apply below_alloc | apply pw_below_drewN | apply below_drew1 | refine below_set ?_ GE160.out) | exact HB.out))) : w.heap.size ≤ gb176)); have n6_ := Aside0.mk ((by rw [hg]; exact (below_size (by repeat (first | (with_reducible first | exact HB.out | apply below_alloc | apply pw_below_drewN | apply below_drew1 | refine below_set ?_ GE160.out) | exact HB.out))) : w.heap.size ≤ gb176)); have n7_ := Aside0.mk ((by rw [hg]; exact Nat.ne_of_lt (blk_lt (g := gb160) (o := .cells #[.bool x161000_2, .int .i64 x161001_2, .int .i64 x161002_2, .int .i64 x161003_2] 27 (0, 0)) (by (with_reducible repeat (first | refine blk_drewN ?_ _ | refine blk_drew ?_ | refine blk_alloc ?_ _)); exact BK160.out)) : gb160 ≠ gb176)); have n8_ := Aside0.mk ((by rw [hg]; exact Nat.ne_of_gt (blk_lt (g := gb160) (o := .cells #[.bool x161000_2, .int .i64 x161001_2, .int .i64 x161002_2, .int .i64 x161003_2] 27 (0, 0)) (by (with_reducible repeat (first | refine blk_drewN ?_ _ | refine blk_drew ?_ | refine blk_alloc ?_ _)); exact BK160.out)) : gb176 ≠ gb160)); clear HO166; clear HO174; clear BK160; clear HB; have HO166 := n0_; have HO174 := n1_; have BK160 := n2_; have HB := n3_; have BK176 := n4_; have GW176 := n5_; have GE176 := n6_; have NB160_176 := n7_; have NB176_160 := n8_; clear n0_ n1_ n2_ n3_ n4_ n5_ n6_ n7_ n8_; clear hb hbox hg; have hnb92 := NB176_160.out; have hnc92 := NB160_176.out; have hcz93_0 : w91.cell? ⟨gb176, 0, none⟩ = some (.bool false) := (blk_cell BK176.out 0).trans rfl; have hcz93_1 : w91.cell? ⟨gb176, 1, none⟩ = some (.int .i64 0) := (blk_cell BK176.out 1).trans rfl; have hcz93_2 : w91.cell? ⟨gb176, 2, none⟩ = some (.int .i64 0) := (blk_cell BK176.out 2).trans rfl; have hcz93_3 : w91.cell? ⟨gb176, 3, none⟩ = some (.int .i64 0) := (blk_cell BK176.out 3).trans rfl; have hfz93_0 := blk_frozen BK176.out 0; have hfz93_1 := blk_frozen BK176.out 1; have hfz93_2 := blk_frozen BK176.out 2; have hfz93_3 := blk_frozen BK176.out 3; have p181 : 0 ≤ (x10_2 : Int) := of_decide_eq_true (by first | (with_reducible assumption) | assumption); have q181 : x10_2 < (l0.length : Int) := of_decide_eq_true (by first | (with_reducible assumption) | assumption); obtain ⟨ad181, A181_0, c181_0, e181, hx181_0, hl181_0, hi181_0⟩ := at_L1 HR0.out x10_2 p181 q181; obtain rfl : ad161 = ad181 := (by injection e181); have hn181_0 : ad161.block ≠ gb176 := Nat.ne_of_lt (Nat.lt_of_lt_of_le (by have := World.block_lt_of_cell? _ _ hx181_0; first | rwa [add_block] at this | exact this) GW176.out); have hn181_1 : ad161.block ≠ gb176 := Nat.ne_of_lt (Nat.lt_of_lt_of_le (by have := World.block_lt_of_cell? _ _ hx181_0; first | rwa [add_block] at this | exact this) GW176.out); have hn181_2 : ad161.block ≠ gb176 := Nat.ne_of_lt (Nat.lt_of_lt_of_le (by have := World.block_lt_of_cell? _ _ hx181_0; first | rwa [add_block] at this | exact this) GW176.out); have hn181_3 : ad161.block ≠ gb176 := Nat.ne_of_lt (Nat.lt_of_lt_of_le (by have := World.block_lt_of_cell? _ _ hx181_0; first | rwa [add_block] at this | exact this) GW176.out); replace hx181_0 := (HB.out.cell (World.block_lt_of_cell? w _ hx181_0)).trans hx181_0; have HR181_0 := Aside0.mk hi181_0; have HC181_0 := Aside0.mk hl181_0; clear hi181_0 hl181_0; replace hx181_0 := (cell_far (p := ⟨gb176, 0, none⟩) (by first | (rw [add_block]; exact hn181_0) | (show (Addr.add _ _).block ≠ _; rw [add_block]; exact hn181_0) | exact hn181_0) (.bool t168)).trans hx181_0; replace hx181_0 := (cell_far (p := ⟨gb176, 1, none⟩) (by first | (rw [add_block]; exact hn181_1) | (show (Addr.add _ _).block ≠ _; rw [add_block]; exact hn181_1) | exact hn181_1) (.int .i64 t169)).trans hx181_0; replace hx181_0 := (cell_far (p := ⟨gb176, 2, none⟩) (by first | (rw [add_block]; exact hn181_2) | (show (Addr.add _ _).block ≠ _; rw [add_block]; exact hn181_2) | exact hn181_2) (.int .i64 t170)).trans hx181_0; replace hx181_0 := (cell_far (p := ⟨gb176, 3, none⟩) (by first | (rw [add_block]; exact hn181_3) | (show (Addr.add _ _).block ≠ _; rw [add_block]; exact hn181_3) | exact hn181_3) (.int .i64 t171)).trans hx181_0; clear hn181_0; clear hn181_1; clear hn181_2; clear hn181_3; replace p181 := eq_true p181; replace q181 := eq_true q181; obtain ⟨Ao94, co94, eo94⟩ := Kd.R_slice HO174.out; subst eo94) | (go_at_call 8; (with_reducible refine (phaetonref01_SameBytes.calls _ _ t172 _ _ (rd_L1 l0 x10_2) true _ ?side1 ?side2 ?side3 ?side4 A85.out).mono ?_); (case side1 => refine (Kd.R_reads' (e := 5) (base := w.heap.size) (ok := fun k_ => (True ∧ some k_ ≠ (.slice Ao89 t163.length co89 : Value).ownBlock)) (n := t172.length) (c := co94) ?_).2.2; exact (by (with_reducible repeat (first | apply Kd.R_alloc | apply Kd.R_drewN | apply Kd.R_drew)); exact (Kd.R_mono (Kd.R_far (p := ⟨gb176, 3, none⟩) (Kd.R_far (p := ⟨gb176, 2, none⟩) (Kd.R_far (p := ⟨gb176, 1, none⟩) (Kd.R_far (p := ⟨gb176, 0, none⟩) (Kd.R_types HO174.out BK176.out (by decide)) (fun _ hk => hk.2) (.bool t168)) (fun _ hk => hk.2) (.int .i64 t169)) (fun _ hk => hk.2) (.int .i64 t170)) (fun _ hk => hk.2) (.int .i64 t171)) (fun _ h_ => h_.1)))); (case side2 => exact (Kd.R_reads' HO174.out).2.1); (case side3 => exact Kd.C_below HR181_0.out (by repeat (first | (with_reducible first | exact HB.out | apply below_alloc | apply pw_below_drewN | apply below_drew1 | refine below_set ?_ GE160.out | refine below_set ?_ GE176.out) | exact HB.out))); (case side4 => exact HC181_0.out); rintro e w' ⟨rfl, ⟨nd, rfl⟩⟩; have hcz95_0 : w91.cell? ⟨gb160, 0, none⟩ = some (.bool x161000_2) := (blk_cell BK160.out 0).trans rfl; have hcz95_1 : w91.cell? ⟨gb160, 1, none⟩ = some (.int .i64 x161001_2) := (blk_cell BK160.out 1).trans rfl; have hcz95_2 : w91.cell? ⟨gb160, 2, none⟩ = some (.int .i64 x161002_2) := (blk_cell BK160.out 2).trans rfl; have hcz95_3 : w91.cell? ⟨gb160, 3, none⟩ = some (.int .i64 x161003_2) := (blk_cell BK160.out 3).trans rfl; have hfz95_0 := blk_frozen BK160.out 0; have hfz95_1 := blk_frozen BK160.out 1; have hfz95_2 := blk_frozen BK160.out 2; have hfz95_3 := blk_frozen BK160.out 3))
                                    go_roundg k2
                                    case measure => have := HJ4.out; have := HK2.out; omega
                                    case rel => exact ⟨(x10_2), (wrap64 (x10_2 + 1)), (t168), (t169), (t170), (t171), (by first | rfl | (simp; done) | (simp [*]; done)), (by first | rfl | (simp; done) | (simp [*]; done)), H', ⟨by have := HJ4.out; have := HK2.out; omega⟩, ⟨by (with_reducible repeat (first | refine blk_drewN ?_ _ | refine blk_drew ?_ | refine blk_alloc ?_ _)); refine blk_put (cs := #[.bool t168, .int .i64 t169, .int .i64 t170, .int .i64 x161003_2]) ?_ 3 _ rfl; (with_reducible repeat (first | refine blk_drewN ?_ _ | refine blk_drew ?_ | refine blk_alloc ?_ _)); refine blk_put (cs := #[.bool t168, .int .i64 t169, .int .i64 x161002_2, .int .i64 x161003_2]) ?_ 2 _ rfl; (with_reducible repeat (first | refine blk_drewN ?_ _ | refine blk_drew ?_ | refine blk_alloc ?_ _)); refine blk_put (cs := #[.bool t168, .int .i64 x161001_2, .int .i64 x161002_2, .int .i64 x161003_2]) ?_ 1 _ rfl; (with_reducible repeat (first | refine blk_drewN ?_ _ | refine blk_drew ?_ | refine blk_alloc ?_ _)); refine blk_put (cs := #[.bool x161000_2, .int .i64 x161001_2, .int .i64 x161002_2, .int .i64 x161003_2]) ?_ 0 _ rfl; (with_reducible repeat (first | refine blk_drewN ?_ _ | refine blk_drew ?_ | refine blk_alloc ?_ _)); refine blk_far ?_ NB160_176.out _; (with_reducible repeat (first | refine blk_drewN ?_ _ | refine blk_drew ?_ | refine blk_alloc ?_ _)); refine blk_far ?_ NB160_176.out _; (with_reducible repeat (first | refine blk_drewN ?_ _ | refine blk_drew ?_ | refine blk_alloc ?_ _)); refine blk_far ?_ NB160_176.out _; (with_reducible repeat (first | refine blk_drewN ?_ _ | refine blk_drew ?_ | refine blk_alloc ?_ _)); refine blk_far ?_ NB160_176.out _; (with_reducible repeat (first | refine blk_drewN ?_ _ | refine blk_drew ?_ | refine blk_alloc ?_ _)); exact BK160.out⟩, ⟨by repeat (first | (with_reducible first | exact HB.out | apply below_alloc | apply pw_below_drewN | apply below_drew1 | refine below_set ?_ GE160.out | refine below_set ?_ GE176.out) | exact HB.out)⟩⟩
                                  · replace c86 := Bool.eq_false_iff.mpr c86
                                    subst c86
                                    have H1 : (none) = some r := by rw [if_neg (show ¬ (false = true) by decide)] at H; exact H
                                    clear H
                                    have H := H1
                                    clear H1
                                    exact absurd H (by simp)
                              · rw [if_neg c73] at H
                                exact absurd H (by simp)
                            · rw [if_neg c72] at H
                              have c72b0 : ((Int.tmod (wrap64 (x10_2 - x9_2)) 15) == 1) = false := beq_eq_false_iff_ne.mpr c72
                              have c72b1 : ((Int.tmod (wrap64 (x10_2 - x9_2)) 15) != 1) = true := bne_iff_ne.mpr c72
                              by_cases c96 : t175 = 4
                              · rw [if_pos c96] at H
                                have c96b0 : (t175 == 4) = true := beq_iff_eq.mpr c96
                                have c96b1 : (t175 != 4) = false := bne_eq_false_iff_eq.mpr c96
                                clear c96
                                by_cases c97 : 4 = 3
                                · exact absurd c97 (by decide)
                                · rw [if_neg c97] at H
                                  have c97b0 : (4 == 3) = false := beq_eq_false_iff_ne.mpr c97
                                  have c97b1 : (4 != 3) = true := bne_iff_ne.mpr c97
                                  replace H := Option.bind_eq_some_iff.mp H
                                  obtain ⟨t184, A1080, H⟩ := H
                                  replace H : (if t184 = true then (phaetontop_TopLost.l0 k2 l0 l1 a2 t155 x10_2 (wrap64 (x10_2 + 1)) t168 t169 t170 t171) else (none)) = some r := H
                                  have A108 := Aside0.mk A1080
                                  clear A1080
                                  by_cases c109 : t184 = true
                                  · subst c109
                                    have H1 : (phaetontop_TopLost.l0 k2 l0 l1 a2 t155 x10_2 (wrap64 (x10_2 + 1)) t168 t169 t170 t171) = some r := by rw [if_pos rfl] at H; exact H
                                    clear H
                                    have H := H1
                                    clear H1
                                    have H' := Aside0.mk H
                                    clear H
                                    have p161 : 0 ≤ (x10_2 : Int) := of_decide_eq_true (by first | (with_reducible assumption) | assumption)
                                    have q161 : x10_2 < (l0.length : Int) := of_decide_eq_true (by first | (with_reducible assumption) | assumption)
                                    obtain ⟨ad161, A161_0, c161_0, e161, hx161_0, hl161_0, hi161_0⟩ := at_L1 HR0.out x10_2 p161 q161
                                    cases e161
                                    replace hx161_0 := (HB.out.cell (World.block_lt_of_cell? w _ hx161_0)).trans hx161_0
                                    have HR161_0 := Aside0.mk hi161_0
                                    have HC161_0 := Aside0.mk hl161_0
                                    clear hi161_0 hl161_0
                                    replace p161 := eq_true p161
                                    replace q161 := eq_true q161
                                    have p162 : 0 ≤ (x10_2 : Int) := of_decide_eq_true (by first | (with_reducible assumption) | assumption)
                                    have q162 : x10_2 < (l0.length : Int) := of_decide_eq_true (by first | (with_reducible assumption) | assumption)
                                    obtain ⟨ad162, A162_0, c162_0, e162, hx162_0, hl162_0, hi162_0⟩ := at_L1 HR0.out x10_2 p162 q162
                                    obtain rfl : ad161 = ad162 := (by injection e162)
                                    replace hx162_0 := (HB.out.cell (World.block_lt_of_cell? w _ hx162_0)).trans hx162_0
                                    have HR162_0 := Aside0.mk hi162_0
                                    have HC162_0 := Aside0.mk hl162_0
                                    clear hi162_0 hl162_0
                                    replace p162 := eq_true p162
                                    replace q162 := eq_true q162
                                    have ea_ := Option.some.inj (hx161_0.symm.trans hx162_0)
                                    injection ea_ with ea_ en_ ec_
                                    subst ea_
                                    subst ec_
                                    clear en_
                                    go_wp2_with (first | ((with_reducible refine gate_store (t := 27) (p := 13) rfl ?_); refine HW.store_box2 rfl rfl 27 _ _ rfl rfl rfl BK176.out rfl (by kernel_rfl) (by intro q hq; simp only [List.mem_cons, List.not_mem_nil, or_false] at hq; rcases hq with rfl | rfl | rfl | rfl <;> rfl) ?_; intro w1_ hw1_ hk1_; simp only [List.toList_toArray, World.setCells, Nat.zero_add, Nat.reduceAdd] at hw1_; subst hw1_; have hcb176_0 := (blk_cell hk1_ 0).trans rfl; have hfb176_0 := blk_frozen hk1_ 0; have hcb176_1 := (blk_cell hk1_ 1).trans rfl; have hfb176_1 := blk_frozen hk1_ 1; have hcb176_2 := (blk_cell hk1_ 2).trans rfl; have hfb176_2 := blk_frozen hk1_ 2; have hcb176_3 := (blk_cell hk1_ 3).trans rfl; have hfb176_3 := blk_frozen hk1_ 3; clear hk1_) | ((with_reducible refine gate_store (t := 27) (p := 8) rfl ?_); refine HW.store_box2 rfl rfl 27 _ _ rfl rfl rfl BK160.out rfl (by kernel_rfl) (by intro q hq; simp only [List.mem_cons, List.not_mem_nil, or_false] at hq; rcases hq with rfl | rfl | rfl | rfl <;> rfl) ?_; intro w1_ hw1_ hk1_; simp only [List.toList_toArray, World.setCells, Nat.zero_add, Nat.reduceAdd] at hw1_; subst hw1_; have hcb160_0 := (blk_cell hk1_ 0).trans rfl; have hfb160_0 := blk_frozen hk1_ 0; have hcb160_1 := (blk_cell hk1_ 1).trans rfl; have hfb160_1 := blk_frozen hk1_ 1; have hcb160_2 := (blk_cell hk1_ 2).trans rfl; have hfb160_2 := blk_frozen hk1_ 2; have hcb160_3 := (blk_cell hk1_ 3).trans rfl; have hfb160_3 := blk_frozen hk1_ 3; clear hk1_) | ((with_reducible refine gate_callee (f := 6) rfl ?_); refine goesL_ (some 53) rfl rfl Try.func6 (by kernel_rfl) rfl #[.int .i64 (wrap64 (a2)), .int .i64 (Int.tmod x10_2 15), .slice A161_0 (rd_L1 l0 x10_2).length c161_0] rfl (by (try simp only [List.map_toArray, List.map_cons, List.map_nil]); first | done | rfl | (simp only [List.length_drop, List.length_take]; rfl)) ?_; (with_reducible refine (trust_Wrap.calls (wrap64 (a2)) (Int.tmod x10_2 15) _ _ (rd_L1 l0 x10_2) t163 true _ ?side1 ?side2 A18.out).mono ?_); (case side1 => repeat (first | exact (Kd.C_below HR162_0.out HB.out) | (with_reducible refine Kd.C_alloc ?_ _) | (with_reducible refine Kd.C_drewN ?_ _) | (with_reducible refine Kd.C_drew ?_))); (case side2 => exact HC162_0.out); rintro e w110 ⟨v165, rfl, ho0, hb⟩; refine ⟨_, rfl, ?_⟩; have n0_ := Aside0.mk (Kd.R_lower ho0 (below_size (by repeat (first | (with_reducible first | exact HB.out | apply below_alloc | apply pw_below_drewN | apply below_drew1 | refine below_set ?_ GE160.out) | exact HB.out)))); have n1_ := Aside0.mk (blk_below (g := gb160) (o := .cells #[.bool x161000_2, .int .i64 x161001_2, .int .i64 x161002_2, .int .i64 x161003_2] 27 (0, 0)) (by (with_reducible repeat (first | refine blk_drewN ?_ _ | refine blk_drew ?_ | refine blk_alloc ?_ _)); exact BK160.out) hb); have n2_ := Aside0.mk (below_step (by repeat (first | (with_reducible first | exact HB.out | apply below_alloc | apply pw_below_drewN | apply below_drew1 | refine below_set ?_ GE160.out) | exact HB.out)) hb); clear BK160; clear HB; have HO166 := n0_; have BK160 := n1_; have HB := n2_; clear n0_ n1_ n2_; (try clear hb); (try clear hb2); (try clear hk); (try clear hi); (try clear ho0); have p167 : 0 ≤ (x10_2 : Int) := of_decide_eq_true (by first | (with_reducible assumption) | assumption); have q167 : x10_2 < (l1.length : Int) := of_decide_eq_true (by first | (with_reducible assumption) | assumption); obtain ⟨ad167, e167, hx167_0⟩ := Kd.at_bool HR1.out x10_2 p167 q167; (try rw [← Nbq21.out] at hx167_0); cases e167; replace hx167_0 := (HB.out.cell (World.block_lt_of_cell? w _ hx167_0)).trans hx167_0; replace p167 := eq_true p167; replace q167 := eq_true q167; have hcz111_0 : w110.cell? ⟨gb160, 0, none⟩ = some (.bool x161000_2) := (blk_cell BK160.out 0).trans rfl; have hcz111_1 : w110.cell? ⟨gb160, 1, none⟩ = some (.int .i64 x161001_2) := (blk_cell BK160.out 1).trans rfl; have hcz111_2 : w110.cell? ⟨gb160, 2, none⟩ = some (.int .i64 x161002_2) := (blk_cell BK160.out 2).trans rfl; have hcz111_3 : w110.cell? ⟨gb160, 3, none⟩ = some (.int .i64 x161003_2) := (blk_cell BK160.out 3).trans rfl; have hfz111_0 := blk_frozen BK160.out 0; have hfz111_1 := blk_frozen BK160.out 1; have hfz111_2 := blk_frozen BK160.out 2; have hfz111_3 := blk_frozen BK160.out 3; obtain ⟨Ao112, co112, eo112⟩ := Kd.R_slice HO166.out; subst eo112) | ((with_reducible refine gate_callee (f := 7) rfl ?_); refine goesL_ (some 68) rfl rfl Try.func7 (by kernel_rfl) rfl #[.agg #[.bool x161000_2, .int .i64 x161001_2, .int .i64 x161002_2, .int .i64 x161003_2], .int .i64 (wrap64 (a2)), .slice Ao112 t163.length co112, .int .i64 14] rfl (by (try simp only [List.map_toArray, List.map_cons, List.map_nil]); first | done | rfl | (simp only [List.length_drop, List.length_take]; rfl)) ?_; (with_reducible refine (trust_Check.calls x161000_2 x161001_2 x161002_2 x161003_2 (wrap64 (a2)) _ _ t163 14 t168 t169 t170 t171 t172 t175 _ ?side1 ?side2 A23.out).mono ?_); (case side1 => repeat (first | exact (Kd.R_reads' HO166.out).2.2 | (with_reducible refine Kd.C_alloc ?_ _) | (with_reducible refine Kd.C_drewN ?_ _) | (with_reducible refine Kd.C_drew ?_))); (case side2 => exact (Kd.R_reads' HO166.out).2.1); rintro e w113 ⟨v173, rfl, ho0, hb⟩; refine ⟨_, rfl, ?_⟩; have n0_ := Aside0.mk (Kd.R_elder' (by (with_reducible repeat (first | apply Kd.R_alloc | apply Kd.R_drewN | apply Kd.R_drew)); exact HO166.out) (Kd.R_base ho0) hb); have n1_ := Aside0.mk (Kd.R_lower (Kd.R_new' ho0 (Kd.R_lt (by (with_reducible repeat (first | apply Kd.R_alloc | apply Kd.R_drewN | apply Kd.R_drew)); exact HO166.out))) (below_size (by repeat (first | (with_reducible first | exact HB.out | apply below_alloc | apply pw_below_drewN | apply below_drew1 | refine below_set ?_ GE160.out) | exact HB.out)))); have n2_ := Aside0.mk (blk_below (g := gb160) (o := .cells #[.bool x161000_2, .int .i64 x161001_2, .int .i64 x161002_2, .int .i64 x161003_2] 27 (0, 0)) (by (with_reducible repeat (first | refine blk_drewN ?_ _ | refine blk_drew ?_ | refine blk_alloc ?_ _)); exact BK160.out) hb); have n3_ := Aside0.mk (below_step (by repeat (first | (with_reducible first | exact HB.out | apply below_alloc | apply pw_below_drewN | apply below_drew1 | refine below_set ?_ GE160.out) | exact HB.out)) hb); clear HO166; clear BK160; clear HB; have HO166 := n0_; have HO174 := n1_; have BK160 := n2_; have HB := n3_; clear n0_ n1_ n2_ n3_; (try clear hb); (try clear hb2); (try clear hk); (try clear hi); (try clear ho0)) | ((with_reducible refine gate_dst (N := 13) rfl ?_); (try (refine gate_guard (by rfl) ?_; dsimp only)); refine box_event ?hg (N := 13) ?hd (cs := #[.bool false, .int .i64 0, .int .i64 0, .int .i64 0]) (t := 27) ?hr ?_; (case hd => rfl); (case hg => rfl); (case hr => first | (go_simp; done) | (go_simp; rfl)); intro gb176 hg w114 hbox hb; have n0_ := Aside0.mk (Kd.R_below (by (with_reducible repeat (first | apply Kd.R_alloc | apply Kd.R_drewN | apply Kd.R_drew)); exact HO166.out) hb); have n1_ := Aside0.mk (Kd.R_below (by (with_reducible repeat (first | apply Kd.R_alloc | apply Kd.R_drewN | apply Kd.R_drew)); exact HO174.out) hb); have n2_ := Aside0.mk (blk_below (g := gb160) (o := .cells #[.bool x161000_2, .int .i64 x161001_2, .int .i64 x161002_2, .int .i64 x161003_2] 27 (0, 0)) (by (with_reducible repeat (first | refine blk_drewN ?_ _ | refine blk_drew ?_ | refine blk_alloc ?_ _)); exact BK160.out) hb); have n3_ := Aside0.mk (below_step (by repeat (first | (with_reducible first | exact HB.out | apply below_alloc | apply pw_below_drewN | apply below_drew1 | refine below_set ?_ GE160.out) | exact HB.out)) hb); have n4_ := Aside0.mk (hbox); have n5_ := Aside0.mk ((by rw [hg]; exact (below_size (by repeat (first | (with_reducible first | exact HB.out | apply below_alloc | apply pw_below_drewN | apply below_drew1 | refine below_set ?_ GE160.out) | exact HB.out))) : w.heap.size ≤ gb176)); have n6_ := Aside0.mk ((by rw [hg]; exact (below_size (by repeat (first | (with_reducible first | exact HB.out | apply below_alloc | apply pw_below_drewN | apply below_drew1 | refine below_set ?_ GE160.out) | exact HB.out))) : w.heap.size ≤ gb176)); have n7_ := Aside0.mk ((by rw [hg]; exact Nat.ne_of_lt (blk_lt (g := gb160) (o := .cells #[.bool x161000_2, .int .i64 x161001_2, .int .i64 x161002_2, .int .i64 x161003_2] 27 (0, 0)) (by (with_reducible repeat (first | refine blk_drewN ?_ _ | refine blk_drew ?_ | refine blk_alloc ?_ _)); exact BK160.out)) : gb160 ≠ gb176)); have n8_ := Aside0.mk ((by rw [hg]; exact Nat.ne_of_gt (blk_lt (g := gb160) (o := .cells #[.bool x161000_2, .int .i64 x161001_2, .int .i64 x161002_2, .int .i64 x161003_2] 27 (0, 0)) (by (with_reducible repeat (first | refine blk_drewN ?_ _ | refine blk_drew ?_ | refine blk_alloc ?_ _)); exact BK160.out)) : gb176 ≠ gb160)); clear HO166; clear HO174; clear BK160; clear HB; have HO166 := n0_; have HO174 := n1_; have BK160 := n2_; have HB := n3_; have BK176 := n4_; have GW176 := n5_; have GE176 := n6_; have NB160_176 := n7_; have NB176_160 := n8_; clear n0_ n1_ n2_ n3_ n4_ n5_ n6_ n7_ n8_; clear hb hbox hg; have hnb115 := NB176_160.out; have hnc115 := NB160_176.out; have hcz116_0 : w114.cell? ⟨gb176, 0, none⟩ = some (.bool false) := (blk_cell BK176.out 0).trans rfl; have hcz116_1 : w114.cell? ⟨gb176, 1, none⟩ = some (.int .i64 0) := (blk_cell BK176.out 1).trans rfl; have hcz116_2 : w114.cell? ⟨gb176, 2, none⟩ = some (.int .i64 0) := (blk_cell BK176.out 2).trans rfl; have hcz116_3 : w114.cell? ⟨gb176, 3, none⟩ = some (.int .i64 0) := (blk_cell BK176.out 3).trans rfl; have hfz116_0 := blk_frozen BK176.out 0; have hfz116_1 := blk_frozen BK176.out 1; have hfz116_2 := blk_frozen BK176.out 2; have hfz116_3 := blk_frozen BK176.out 3; have p183 : 0 ≤ (x10_2 : Int) := of_decide_eq_true (by first | (with_reducible assumption) | assumption); have q183 : x10_2 < (l0.length : Int) := of_decide_eq_true (by first | (with_reducible assumption) | assumption); obtain ⟨ad183, A183_0, c183_0, e183, hx183_0, hl183_0, hi183_0⟩ := at_L1 HR0.out x10_2 p183 q183; obtain rfl : ad161 = ad183 := (by injection e183); have hn183_0 : ad161.block ≠ gb176 := Nat.ne_of_lt (Nat.lt_of_lt_of_le (by have := World.block_lt_of_cell? _ _ hx183_0; first | rwa [add_block] at this | exact this) GW176.out); have hn183_1 : ad161.block ≠ gb176 := Nat.ne_of_lt (Nat.lt_of_lt_of_le (by have := World.block_lt_of_cell? _ _ hx183_0; first | rwa [add_block] at this | exact this) GW176.out); have hn183_2 : ad161.block ≠ gb176 := Nat.ne_of_lt (Nat.lt_of_lt_of_le (by have := World.block_lt_of_cell? _ _ hx183_0; first | rwa [add_block] at this | exact this) GW176.out); have hn183_3 : ad161.block ≠ gb176 := Nat.ne_of_lt (Nat.lt_of_lt_of_le (by have := World.block_lt_of_cell? _ _ hx183_0; first | rwa [add_block] at this | exact this) GW176.out); replace hx183_0 := (HB.out.cell (World.block_lt_of_cell? w _ hx183_0)).trans hx183_0; have HR183_0 := Aside0.mk hi183_0; have HC183_0 := Aside0.mk hl183_0; clear hi183_0 hl183_0; replace hx183_0 := (cell_far (p := ⟨gb176, 0, none⟩) (by first | (rw [add_block]; exact hn183_0) | (show (Addr.add _ _).block ≠ _; rw [add_block]; exact hn183_0) | exact hn183_0) (.bool t168)).trans hx183_0; replace hx183_0 := (cell_far (p := ⟨gb176, 1, none⟩) (by first | (rw [add_block]; exact hn183_1) | (show (Addr.add _ _).block ≠ _; rw [add_block]; exact hn183_1) | exact hn183_1) (.int .i64 t169)).trans hx183_0; replace hx183_0 := (cell_far (p := ⟨gb176, 2, none⟩) (by first | (rw [add_block]; exact hn183_2) | (show (Addr.add _ _).block ≠ _; rw [add_block]; exact hn183_2) | exact hn183_2) (.int .i64 t170)).trans hx183_0; replace hx183_0 := (cell_far (p := ⟨gb176, 3, none⟩) (by first | (rw [add_block]; exact hn183_3) | (show (Addr.add _ _).block ≠ _; rw [add_block]; exact hn183_3) | exact hn183_3) (.int .i64 t171)).trans hx183_0; clear hn183_0; clear hn183_1; clear hn183_2; clear hn183_3; replace p183 := eq_true p183; replace q183 := eq_true q183; obtain ⟨Ao117, co117, eo117⟩ := Kd.R_slice HO174.out; subst eo117) | (go_at_call 8; (with_reducible refine (phaetonref01_SameBytes.calls _ _ t172 _ _ (rd_L1 l0 x10_2) true _ ?side1 ?side2 ?side3 ?side4 A108.out).mono ?_); (case side1 => refine (Kd.R_reads' (e := 5) (base := w.heap.size) (ok := fun k_ => (True ∧ some k_ ≠ (.slice Ao112 t163.length co112 : Value).ownBlock)) (n := t172.length) (c := co117) ?_).2.2; exact (by (with_reducible repeat (first | apply Kd.R_alloc | apply Kd.R_drewN | apply Kd.R_drew)); exact (Kd.R_mono (Kd.R_far (p := ⟨gb176, 3, none⟩) (Kd.R_far (p := ⟨gb176, 2, none⟩) (Kd.R_far (p := ⟨gb176, 1, none⟩) (Kd.R_far (p := ⟨gb176, 0, none⟩) (Kd.R_types HO174.out BK176.out (by decide)) (fun _ hk => hk.2) (.bool t168)) (fun _ hk => hk.2) (.int .i64 t169)) (fun _ hk => hk.2) (.int .i64 t170)) (fun _ hk => hk.2) (.int .i64 t171)) (fun _ h_ => h_.1)))); (case side2 => exact (Kd.R_reads' HO174.out).2.1); (case side3 => exact Kd.C_below HR183_0.out (by repeat (first | (with_reducible first | exact HB.out | apply below_alloc | apply pw_below_drewN | apply below_drew1 | refine below_set ?_ GE160.out | refine below_set ?_ GE176.out) | exact HB.out))); (case side4 => exact HC183_0.out); rintro e w' ⟨rfl, ⟨nd, rfl⟩⟩; have hcz118_0 : w114.cell? ⟨gb160, 0, none⟩ = some (.bool x161000_2) := (blk_cell BK160.out 0).trans rfl; have hcz118_1 : w114.cell? ⟨gb160, 1, none⟩ = some (.int .i64 x161001_2) := (blk_cell BK160.out 1).trans rfl; have hcz118_2 : w114.cell? ⟨gb160, 2, none⟩ = some (.int .i64 x161002_2) := (blk_cell BK160.out 2).trans rfl; have hcz118_3 : w114.cell? ⟨gb160, 3, none⟩ = some (.int .i64 x161003_2) := (blk_cell BK160.out 3).trans rfl; have hfz118_0 := blk_frozen BK160.out 0; have hfz118_1 := blk_frozen BK160.out 1; have hfz118_2 := blk_frozen BK160.out 2; have hfz118_3 := blk_frozen BK160.out 3))
                                    go_roundg k2
                                    case measure => have := HJ4.out; have := HK2.out; omega
                                    case rel => exact ⟨(x10_2), (wrap64 (x10_2 + 1)), (t168), (t169), (t170), (t171), (by first | rfl | (simp; done) | (simp [*]; done)), (by first | rfl | (simp; done) | (simp [*]; done)), H', ⟨by have := HJ4.out; have := HK2.out; omega⟩, ⟨by (with_reducible repeat (first | refine blk_drewN ?_ _ | refine blk_drew ?_ | refine blk_alloc ?_ _)); refine blk_put (cs := #[.bool t168, .int .i64 t169, .int .i64 t170, .int .i64 x161003_2]) ?_ 3 _ rfl; (with_reducible repeat (first | refine blk_drewN ?_ _ | refine blk_drew ?_ | refine blk_alloc ?_ _)); refine blk_put (cs := #[.bool t168, .int .i64 t169, .int .i64 x161002_2, .int .i64 x161003_2]) ?_ 2 _ rfl; (with_reducible repeat (first | refine blk_drewN ?_ _ | refine blk_drew ?_ | refine blk_alloc ?_ _)); refine blk_put (cs := #[.bool t168, .int .i64 x161001_2, .int .i64 x161002_2, .int .i64 x161003_2]) ?_ 1 _ rfl; (with_reducible repeat (first | refine blk_drewN ?_ _ | refine blk_drew ?_ | refine blk_alloc ?_ _)); refine blk_put (cs := #[.bool x161000_2, .int .i64 x161001_2, .int .i64 x161002_2, .int .i64 x161003_2]) ?_ 0 _ rfl; (with_reducible repeat (first | refine blk_drewN ?_ _ | refine blk_drew ?_ | refine blk_alloc ?_ _)); refine blk_far ?_ NB160_176.out _; (with_reducible repeat (first | refine blk_drewN ?_ _ | refine blk_drew ?_ | refine blk_alloc ?_ _)); refine blk_far ?_ NB160_176.out _; (with_reducible repeat (first | refine blk_drewN ?_ _ | refine blk_drew ?_ | refine blk_alloc ?_ _)); refine blk_far ?_ NB160_176.out _; (with_reducible repeat (first | refine blk_drewN ?_ _ | refine blk_drew ?_ | refine blk_alloc ?_ _)); refine blk_far ?_ NB160_176.out _; (with_reducible repeat (first | refine blk_drewN ?_ _ | refine blk_drew ?_ | refine blk_alloc ?_ _)); exact BK160.out⟩, ⟨by repeat (first | (with_reducible first | exact HB.out | apply below_alloc | apply pw_below_drewN | apply below_drew1 | refine below_set ?_ GE160.out | refine below_set ?_ GE176.out) | exact HB.out)⟩⟩
                                  · replace c109 := Bool.eq_false_iff.mpr c109
                                    subst c109
                                    have H1 : (none) = some r := by rw [if_neg (show ¬ (false = true) by decide)] at H; exact H
                                    clear H
                                    have H := H1
                                    clear H1
                                    exact absurd H (by simp)
                              · rw [if_neg c96] at H
                                exact absurd H (by simp)
                      · replace c22 := Bool.eq_false_iff.mpr c22
                        subst c22
                        have H1 : (phaetontop_TopLost.l0 k2 l0 l1 a2 t155 x9_2 (wrap64 (x10_2 + 1)) x161000_2 x161001_2 x161002_2 x161003_2) = some r := by rw [if_neg (show ¬ (false = true) by decide)] at H; exact H
                        clear H
                        have H := H1
                        clear H1
                        have H' := Aside0.mk H
                        clear H
                        have p161 : 0 ≤ (x10_2 : Int) := of_decide_eq_true (by first | (with_reducible assumption) | assumption)
                        have q161 : x10_2 < (l0.length : Int) := of_decide_eq_true (by first | (with_reducible assumption) | assumption)
                        obtain ⟨ad161, A161_0, c161_0, e161, hx161_0, hl161_0, hi161_0⟩ := at_L1 HR0.out x10_2 p161 q161
                        cases e161
                        replace hx161_0 := (HB.out.cell (World.block_lt_of_cell? w _ hx161_0)).trans hx161_0
                        have HR161_0 := Aside0.mk hi161_0
                        have HC161_0 := Aside0.mk hl161_0
                        clear hi161_0 hl161_0
                        replace p161 := eq_true p161
                        replace q161 := eq_true q161
                        have p162 : 0 ≤ (x10_2 : Int) := of_decide_eq_true (by first | (with_reducible assumption) | assumption)
                        have q162 : x10_2 < (l0.length : Int) := of_decide_eq_true (by first | (with_reducible assumption) | assumption)
                        obtain ⟨ad162, A162_0, c162_0, e162, hx162_0, hl162_0, hi162_0⟩ := at_L1 HR0.out x10_2 p162 q162
                        obtain rfl : ad161 = ad162 := (by injection e162)
                        replace hx162_0 := (HB.out.cell (World.block_lt_of_cell? w _ hx162_0)).trans hx162_0
                        have HR162_0 := Aside0.mk hi162_0
                        have HC162_0 := Aside0.mk hl162_0
                        clear hi162_0 hl162_0
                        replace p162 := eq_true p162
                        replace q162 := eq_true q162
                        have ea_ := Option.some.inj (hx161_0.symm.trans hx162_0)
                        injection ea_ with ea_ en_ ec_
                        subst ea_
                        subst ec_
                        clear en_
                        go_wp2_with (first | ((with_reducible refine gate_store (t := 27) (p := 8) rfl ?_); refine HW.store_box2 rfl rfl 27 _ _ rfl rfl rfl BK160.out rfl (by kernel_rfl) (by intro q hq; simp only [List.mem_cons, List.not_mem_nil, or_false] at hq; rcases hq with rfl | rfl | rfl | rfl <;> rfl) ?_; intro w1_ hw1_ hk1_; simp only [List.toList_toArray, World.setCells, Nat.zero_add, Nat.reduceAdd] at hw1_; subst hw1_; have hcb160_0 := (blk_cell hk1_ 0).trans rfl; have hfb160_0 := blk_frozen hk1_ 0; have hcb160_1 := (blk_cell hk1_ 1).trans rfl; have hfb160_1 := blk_frozen hk1_ 1; have hcb160_2 := (blk_cell hk1_ 2).trans rfl; have hfb160_2 := blk_frozen hk1_ 2; have hcb160_3 := (blk_cell hk1_ 3).trans rfl; have hfb160_3 := blk_frozen hk1_ 3; clear hk1_) | ((with_reducible refine gate_callee (f := 6) rfl ?_); refine goesL_ (some 53) rfl rfl Try.func6 (by kernel_rfl) rfl #[.int .i64 (wrap64 (a2)), .int .i64 (Int.tmod x10_2 15), .slice A161_0 (rd_L1 l0 x10_2).length c161_0] rfl (by (try simp only [List.map_toArray, List.map_cons, List.map_nil]); first | done | rfl | (simp only [List.length_drop, List.length_take]; rfl)) ?_; (with_reducible refine (trust_Wrap.calls (wrap64 (a2)) (Int.tmod x10_2 15) _ _ (rd_L1 l0 x10_2) t163 true _ ?side1 ?side2 A18.out).mono ?_); (case side1 => repeat (first | exact (Kd.C_below HR162_0.out HB.out) | (with_reducible refine Kd.C_alloc ?_ _) | (with_reducible refine Kd.C_drewN ?_ _) | (with_reducible refine Kd.C_drew ?_))); (case side2 => exact HC162_0.out); rintro e w119 ⟨v165, rfl, ho0, hb⟩; refine ⟨_, rfl, ?_⟩; have n0_ := Aside0.mk (Kd.R_lower ho0 (below_size (by repeat (first | (with_reducible first | exact HB.out | apply below_alloc | apply pw_below_drewN | apply below_drew1 | refine below_set ?_ GE160.out) | exact HB.out)))); have n1_ := Aside0.mk (blk_below (g := gb160) (o := .cells #[.bool x161000_2, .int .i64 x161001_2, .int .i64 x161002_2, .int .i64 x161003_2] 27 (0, 0)) (by (with_reducible repeat (first | refine blk_drewN ?_ _ | refine blk_drew ?_ | refine blk_alloc ?_ _)); exact BK160.out) hb); have n2_ := Aside0.mk (below_step (by repeat (first | (with_reducible first | exact HB.out | apply below_alloc | apply pw_below_drewN | apply below_drew1 | refine below_set ?_ GE160.out) | exact HB.out)) hb); clear BK160; clear HB; have HO166 := n0_; have BK160 := n1_; have HB := n2_; clear n0_ n1_ n2_; (try clear hb); (try clear hb2); (try clear hk); (try clear hi); (try clear ho0); have p167 : 0 ≤ (x10_2 : Int) := of_decide_eq_true (by first | (with_reducible assumption) | assumption); have q167 : x10_2 < (l1.length : Int) := of_decide_eq_true (by first | (with_reducible assumption) | assumption); obtain ⟨ad167, e167, hx167_0⟩ := Kd.at_bool HR1.out x10_2 p167 q167; (try rw [← Nbq21.out] at hx167_0); cases e167; replace hx167_0 := (HB.out.cell (World.block_lt_of_cell? w _ hx167_0)).trans hx167_0; replace p167 := eq_true p167; replace q167 := eq_true q167))
                        go_roundg k2
                        case measure => have := HJ4.out; have := HK2.out; omega
                        case rel => exact ⟨(x9_2), (wrap64 (x10_2 + 1)), (x161000_2), (x161001_2), (x161002_2), (x161003_2), (by first | rfl | (simp; done) | (simp [*]; done)), (by first | rfl | (simp; done) | (simp [*]; done)), H', ⟨by have := HJ4.out; have := HK2.out; omega⟩, ⟨by (with_reducible repeat (first | refine blk_drewN ?_ _ | refine blk_drew ?_ | refine blk_alloc ?_ _)); exact BK160.out⟩, ⟨by repeat (first | (with_reducible first | exact HB.out | apply below_alloc | apply pw_below_drewN | apply below_drew1 | refine below_set ?_ GE160.out) | exact HB.out)⟩⟩
                    · rw [if_neg c20] at H
                      exact absurd H (by simp)
                  · replace c19 := Bool.eq_false_iff.mpr c19
                    subst c19
                    have H1 : (none) = some r := by rw [if_neg (show ¬ (false = true) by decide)] at H; exact H
                    clear H
                    have H := H1
                    clear H1
                    exact absurd H (by simp)
              · rw [if_neg c15] at H
                exact absurd H (by simp)
            · rw [if_neg c14] at H
              have c14b0 : decide (x10_2 < (l0.length : Int)) = false := decide_eq_false c14
              clear c14
              by_cases c120 : t155 = true
              · subst c120
                have H1 : (some true) = some r := by rw [if_pos rfl] at H; exact H
                clear H
                have H := H1
                clear H1
                obtain rfl := Option.some.inj H
                go_wp2
                go_ret
                exact ⟨by first | rfl | (simp [errW_none, errW_some] <;> rfl) | (simp [*, errW_none, errW_some] <;> rfl), by repeat (first | (with_reducible first | exact HB.out | apply below_alloc | apply pw_below_drewN | apply below_drew1 | refine below_set ?_ GE160.out) | exact HB.out)⟩
              · replace c120 := Bool.eq_false_iff.mpr c120
                subst c120
                have H1 : (none) = some r := by rw [if_neg (show ¬ (false = true) by decide)] at H; exact H
                clear H
                have H := H1
                clear H1
                exact absurd H (by simp)

/-- THE ONE PURE STATEMENT of phaetontop_TopLost. -/
def phaetontop_TopLost.Pure : Prop := ∀ (l0 : List (List Int)) (l1 : List Bool) (a2 : Int), l0.length ≤ maxLen → (∀ x ∈ l0, (fun (l : List Int) => ∀ x ∈ l, (fun (x : Int) => (Lit.int .u8 x).wf = true) x) x) → l1.length ≤ maxLen → (∀ x ∈ l1, (fun (_ : Bool) => True) x) → (Lit.int .u16 a2).wf = true → ∃ k, phaetontop_TopLost.f k l0 l1 a2 = some true
theorem phaetontop_TopLost.walk (P : phaetontop_TopLost.Pure) (A0 : Option Addr) (c0 : Nat) (l0 : List (List Int)) (A1 : Option Addr) (c1 : Nat) (l1 : List Bool) (a2 : Int) (w : World) (hw0 : ∀ x ∈ l0, (fun (l : List Int) => ∀ x ∈ l, (fun (x : Int) => (Lit.int .u8 x).wf = true) x) x) (hr0 : Kd.C (Kd.slice 5 (Kd.int .u8)) w A0 l0.length l0) (hc0 : l0.length ≤ c0) (hw1 : ∀ x ∈ l1, (fun (_ : Bool) => True) x) (hr1 : Kd.C Kd.bool w A1 l1.length l1) (hc1 : l1.length ≤ c1) (hw2 : (Lit.int .u16 a2).wf = true) :
    Calls Try.prog 3 #[.slice A0 l0.length c0, .slice A1 l1.length c1, .int .u16 a2] w fun e w' => e = .returned (.bool true) ∧ Below w.heap.size w w' := by
  obtain ⟨k, h⟩ := P l0 l1 a2 (by have := hr0.2.1; unfold maxLen; omega) hw0 (by have := hr1.2.1; unfold maxLen; omega) hw1 hw2
  refine (phaetontop_TopLost.calls k _ _ l0 _ _ l1 a2 true w hr0 hc0 hr1 hc1 h).mono ?_
  rintro e w' ⟨rfl, hd⟩
  exact ⟨rfl, hd⟩

end Go.Proofs.Ytfbmgflkfpppmaa.Px

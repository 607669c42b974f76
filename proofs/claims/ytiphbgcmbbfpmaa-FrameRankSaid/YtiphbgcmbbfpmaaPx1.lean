-- Written by myprint.py, a program of this session's, over the kit's print.py; not a text of print.sh's own.
import Derived.Test.YtiphbgcmbbfpmaaPx0
namespace Go.Proofs.Ytiphbgcmbbfpmaa.Px
open Go.RowKit Go.Proofs.YtiphbgcmbbfpmaaW.PrintWords Go.Proofs.YtiphbgcmbbfpmaaW.PrintLast Go.Proofs.YtiphbgcmbbfpmaaW.PrintMore
attribute [local go_sem] max2_int min2_int max_two min_two max_three min_three max_four min_four   -- for this text's walks alone
set_option linter.unusedVariables false
set_option linter.unusedSimpArgs false

/-! ### frame_Right: function 12 -/
def frame_Right.f (a0_0 : Bool) (a0_1 : Int) (a0_2 : Bool) (a0_3 : Int) (l0_4 : List Int) : Option (Bool) := if a0_0 = true then (if a0_2 = true then (if (a0_1 / 536870912) = 0 then (if a0_3 ≥ 0 then (if a0_3 ≤ 8 then (some ((l0_4.length : Int) == 0)) else (some false)) else (some false)) else (some false)) else (if (a0_1 / 536870912) = 0 then (if a0_3 ≥ 0 then (if a0_3 ≤ 8 then (some ((l0_4.length : Int) == a0_3)) else (some false)) else (some false)) else (some false))) else (if a0_2 = true then (if (a0_1 / 2048) = 0 then (if a0_3 ≥ 0 then (if a0_3 ≤ 8 then (some ((l0_4.length : Int) == 0)) else (some false)) else (some false)) else (some false)) else (if (a0_1 / 2048) = 0 then (if a0_3 ≥ 0 then (if a0_3 ≤ 8 then (some ((l0_4.length : Int) == a0_3)) else (some false)) else (some false)) else (some false)))
set_option maxHeartbeats 8000000 in
set_option maxRecDepth 100000 in
theorem frame_Right.calls (a0_0 : Bool) (a0_1 : Int) (a0_2 : Bool) (a0_3 : Int) (A0_4 : Option Addr) (c0_4 : Nat) (l0_4 : List Int) (r : Bool) (w : World) (hr0_4 : Kd.C (Kd.int .u8) w A0_4 l0_4.length l0_4) (hc0_4 : l0_4.length ≤ c0_4) (h : frame_Right.f a0_0 a0_1 a0_2 a0_3 l0_4 = some r) :
    Calls Try.prog 12 #[.agg #[.bool a0_0, .int .i64 a0_1, .bool a0_2, .int .i64 a0_3, .slice A0_4 l0_4.length c0_4]] w fun e w' => e = .returned (.bool r) ∧ Below w.heap.size w w' := by
  have hu24 := Try.underlying24
  have HR0_4 := Aside0.mk hr0_4
  have HC0_4 := Aside0.mk hc0_4
  clear hr0_4 hc0_4
  have HB := Aside0.mk (Below.refl w.heap.size w)
  have H : (if a0_0 = true then (if a0_2 = true then (if (a0_1 / 536870912) = 0 then (if a0_3 ≥ 0 then (if a0_3 ≤ 8 then (some ((l0_4.length : Int) == 0)) else (some false)) else (some false)) else (some false)) else (if (a0_1 / 536870912) = 0 then (if a0_3 ≥ 0 then (if a0_3 ≤ 8 then (some ((l0_4.length : Int) == a0_3)) else (some false)) else (some false)) else (some false))) else (if a0_2 = true then (if (a0_1 / 2048) = 0 then (if a0_3 ≥ 0 then (if a0_3 ≤ 8 then (some ((l0_4.length : Int) == 0)) else (some false)) else (some false)) else (some false)) else (if (a0_1 / 2048) = 0 then (if a0_3 ≥ 0 then (if a0_3 ≤ 8 then (some ((l0_4.length : Int) == a0_3)) else (some false)) else (some false)) else (some false)))) = some r := h
  clear h
  by_cases c2 : a0_0 = true
  · subst c2
    have H1 : (if a0_2 = true then (if (a0_1 / 536870912) = 0 then (if a0_3 ≥ 0 then (if a0_3 ≤ 8 then (some ((l0_4.length : Int) == 0)) else (some false)) else (some false)) else (some false)) else (if (a0_1 / 536870912) = 0 then (if a0_3 ≥ 0 then (if a0_3 ≤ 8 then (some ((l0_4.length : Int) == a0_3)) else (some false)) else (some false)) else (some false))) = some r := by rw [if_pos rfl] at H; exact H
    clear H
    have H := H1
    clear H1
    by_cases c3 : a0_2 = true
    · subst c3
      have H1 : (if (a0_1 / 536870912) = 0 then (if a0_3 ≥ 0 then (if a0_3 ≤ 8 then (some ((l0_4.length : Int) == 0)) else (some false)) else (some false)) else (some false)) = some r := by rw [if_pos rfl] at H; exact H
      clear H
      have H := H1
      clear H1
      by_cases c4 : (a0_1 / 536870912) = 0
      · rw [if_pos c4] at H
        have c4b0 : ((a0_1 / 536870912) == 0) = true := beq_iff_eq.mpr c4
        have c4b1 : ((a0_1 / 536870912) != 0) = false := bne_eq_false_iff_eq.mpr c4
        clear c4
        by_cases c5 : a0_3 ≥ 0
        · rw [if_pos c5] at H
          have c5b0 : decide (0 ≤ a0_3) = true := decide_eq_true c5
          clear c5
          by_cases c6 : a0_3 ≤ 8
          · rw [if_pos c6] at H
            have c6b0 : decide (a0_3 ≤ 8) = true := decide_eq_true c6
            clear c6
            obtain rfl := Option.some.inj H
            go_enter Try.func12, Try.ntmps12
            go_wp2_with (first | ((with_reducible refine gate_store (t := 24) (p := 1) rfl ?_); refine HW.store_box rfl rfl 24 _ _ rfl rfl rfl BK101.out rfl (by kernel_rfl) (by intro q hq; simp only [List.mem_cons, List.not_mem_nil, or_false] at hq; rcases hq with rfl | rfl | rfl | rfl | rfl <;> rfl) ?_; intro w1_ hw1_; simp only [List.toList_toArray, World.setCells, Nat.zero_add, Nat.reduceAdd] at hw1_; subst hw1_) | ((with_reducible refine gate_store (t := 24) (p := 1) rfl ?_); refine HW.store_box rfl rfl 24 _ _ rfl rfl rfl BK101.out rfl (by kernel_rfl) (by intro q hq; simp only [List.mem_cons, List.not_mem_nil, or_false] at hq; rcases hq with rfl | rfl | rfl | rfl | rfl <;> rfl) ?_; intro w1_ hw1_; simp only [List.toList_toArray, World.setCells, Nat.zero_add, Nat.reduceAdd] at hw1_; subst hw1_) | ((with_reducible refine gate_store (t := 24) (p := 1) rfl ?_); refine HW.store_box rfl rfl 24 _ _ rfl rfl rfl BK101.out rfl (by kernel_rfl) (by intro q hq; simp only [List.mem_cons, List.not_mem_nil, or_false] at hq; rcases hq with rfl | rfl | rfl | rfl | rfl <;> rfl) ?_; intro w1_ hw1_; simp only [List.toList_toArray, World.setCells, Nat.zero_add, Nat.reduceAdd] at hw1_; subst hw1_) | ((with_reducible refine gate_store (t := 24) (p := 1) rfl ?_); refine HW.store_box rfl rfl 24 _ _ rfl rfl rfl BK101.out rfl (by kernel_rfl) (by intro q hq; simp only [List.mem_cons, List.not_mem_nil, or_false] at hq; rcases hq with rfl | rfl | rfl | rfl | rfl <;> rfl) ?_; intro w1_ hw1_; simp only [List.toList_toArray, World.setCells, Nat.zero_add, Nat.reduceAdd] at hw1_; subst hw1_) | ((with_reducible refine gate_dst (N := 1) rfl ?_); (try (refine gate_guard (by rfl) ?_; dsimp only)); refine box_event ?hg (N := 1) ?hd (cs := #[.bool true, .int .i64 a0_1, .bool true, .int .i64 a0_3, .slice A0_4 l0_4.length c0_4]) (t := 24) ?hr ?_; (case hd => rfl); (case hg => rfl); (case hr => first | (go_simp; done) | (go_simp; rfl)); intro gb101 hg w7 hbox hb; have n0_ := Aside0.mk (below_step (by repeat (first | (with_reducible first | exact HB.out | apply below_alloc | apply pw_below_drewN | apply below_drew1) | exact HB.out)) hb); have n1_ := Aside0.mk (hbox); have n2_ := Aside0.mk ((by rw [hg]; exact (below_size (by repeat (first | (with_reducible first | exact HB.out | apply below_alloc | apply pw_below_drewN | apply below_drew1) | exact HB.out))) : w.heap.size ≤ gb101)); have n3_ := Aside0.mk ((by rw [hg]; exact (below_size (by repeat (first | (with_reducible first | exact HB.out | apply below_alloc | apply pw_below_drewN | apply below_drew1) | exact HB.out))) : w.heap.size ≤ gb101)); clear HB; have HB := n0_; have BK101 := n1_; have GW101 := n2_; have GE101 := n3_; clear n0_ n1_ n2_ n3_; clear hb hbox hg; have hcz8_0 : w7.cell? ⟨gb101, 0, none⟩ = some (.bool true) := (blk_cell BK101.out 0).trans rfl; have hcz8_1 : w7.cell? ⟨gb101, 1, none⟩ = some (.int .i64 a0_1) := (blk_cell BK101.out 1).trans rfl; have hcz8_2 : w7.cell? ⟨gb101, 2, none⟩ = some (.bool true) := (blk_cell BK101.out 2).trans rfl; have hcz8_3 : w7.cell? ⟨gb101, 3, none⟩ = some (.int .i64 a0_3) := (blk_cell BK101.out 3).trans rfl; have hcz8_4 : w7.cell? ⟨gb101, 4, none⟩ = some (.slice A0_4 l0_4.length c0_4) := (blk_cell BK101.out 4).trans rfl; have hfz8_0 := blk_frozen BK101.out 0; have hfz8_1 := blk_frozen BK101.out 1; have hfz8_2 := blk_frozen BK101.out 2; have hfz8_3 := blk_frozen BK101.out 3; have hfz8_4 := blk_frozen BK101.out 4))
            go_ret
            exact ⟨by first | rfl | (simp [errW_none, errW_some] <;> rfl) | (simp [*, errW_none, errW_some] <;> rfl), by repeat (first | (with_reducible first | exact HB.out | apply below_alloc | apply pw_below_drewN | apply below_drew1 | refine below_set ?_ GE101.out) | exact HB.out)⟩
          · rw [if_neg c6] at H
            have c6b0 : decide (a0_3 ≤ 8) = false := decide_eq_false c6
            clear c6
            obtain rfl := Option.some.inj H
            go_enter Try.func12, Try.ntmps12
            go_wp2_with (first | ((with_reducible refine gate_store (t := 24) (p := 1) rfl ?_); refine HW.store_box rfl rfl 24 _ _ rfl rfl rfl BK101.out rfl (by kernel_rfl) (by intro q hq; simp only [List.mem_cons, List.not_mem_nil, or_false] at hq; rcases hq with rfl | rfl | rfl | rfl | rfl <;> rfl) ?_; intro w1_ hw1_; simp only [List.toList_toArray, World.setCells, Nat.zero_add, Nat.reduceAdd] at hw1_; subst hw1_) | ((with_reducible refine gate_store (t := 24) (p := 1) rfl ?_); refine HW.store_box rfl rfl 24 _ _ rfl rfl rfl BK101.out rfl (by kernel_rfl) (by intro q hq; simp only [List.mem_cons, List.not_mem_nil, or_false] at hq; rcases hq with rfl | rfl | rfl | rfl | rfl <;> rfl) ?_; intro w1_ hw1_; simp only [List.toList_toArray, World.setCells, Nat.zero_add, Nat.reduceAdd] at hw1_; subst hw1_) | ((with_reducible refine gate_store (t := 24) (p := 1) rfl ?_); refine HW.store_box rfl rfl 24 _ _ rfl rfl rfl BK101.out rfl (by kernel_rfl) (by intro q hq; simp only [List.mem_cons, List.not_mem_nil, or_false] at hq; rcases hq with rfl | rfl | rfl | rfl | rfl <;> rfl) ?_; intro w1_ hw1_; simp only [List.toList_toArray, World.setCells, Nat.zero_add, Nat.reduceAdd] at hw1_; subst hw1_) | ((with_reducible refine gate_store (t := 24) (p := 1) rfl ?_); refine HW.store_box rfl rfl 24 _ _ rfl rfl rfl BK101.out rfl (by kernel_rfl) (by intro q hq; simp only [List.mem_cons, List.not_mem_nil, or_false] at hq; rcases hq with rfl | rfl | rfl | rfl | rfl <;> rfl) ?_; intro w1_ hw1_; simp only [List.toList_toArray, World.setCells, Nat.zero_add, Nat.reduceAdd] at hw1_; subst hw1_) | ((with_reducible refine gate_dst (N := 1) rfl ?_); (try (refine gate_guard (by rfl) ?_; dsimp only)); refine box_event ?hg (N := 1) ?hd (cs := #[.bool true, .int .i64 a0_1, .bool true, .int .i64 a0_3, .slice A0_4 l0_4.length c0_4]) (t := 24) ?hr ?_; (case hd => rfl); (case hg => rfl); (case hr => first | (go_simp; done) | (go_simp; rfl)); intro gb101 hg w9 hbox hb; have n0_ := Aside0.mk (below_step (by repeat (first | (with_reducible first | exact HB.out | apply below_alloc | apply pw_below_drewN | apply below_drew1) | exact HB.out)) hb); have n1_ := Aside0.mk (hbox); have n2_ := Aside0.mk ((by rw [hg]; exact (below_size (by repeat (first | (with_reducible first | exact HB.out | apply below_alloc | apply pw_below_drewN | apply below_drew1) | exact HB.out))) : w.heap.size ≤ gb101)); have n3_ := Aside0.mk ((by rw [hg]; exact (below_size (by repeat (first | (with_reducible first | exact HB.out | apply below_alloc | apply pw_below_drewN | apply below_drew1) | exact HB.out))) : w.heap.size ≤ gb101)); clear HB; have HB := n0_; have BK101 := n1_; have GW101 := n2_; have GE101 := n3_; clear n0_ n1_ n2_ n3_; clear hb hbox hg; have hcz10_0 : w9.cell? ⟨gb101, 0, none⟩ = some (.bool true) := (blk_cell BK101.out 0).trans rfl; have hcz10_1 : w9.cell? ⟨gb101, 1, none⟩ = some (.int .i64 a0_1) := (blk_cell BK101.out 1).trans rfl; have hcz10_2 : w9.cell? ⟨gb101, 2, none⟩ = some (.bool true) := (blk_cell BK101.out 2).trans rfl; have hcz10_3 : w9.cell? ⟨gb101, 3, none⟩ = some (.int .i64 a0_3) := (blk_cell BK101.out 3).trans rfl; have hcz10_4 : w9.cell? ⟨gb101, 4, none⟩ = some (.slice A0_4 l0_4.length c0_4) := (blk_cell BK101.out 4).trans rfl; have hfz10_0 := blk_frozen BK101.out 0; have hfz10_1 := blk_frozen BK101.out 1; have hfz10_2 := blk_frozen BK101.out 2; have hfz10_3 := blk_frozen BK101.out 3; have hfz10_4 := blk_frozen BK101.out 4))
            go_ret
            exact ⟨by first | rfl | (simp [errW_none, errW_some] <;> rfl) | (simp [*, errW_none, errW_some] <;> rfl), by repeat (first | (with_reducible first | exact HB.out | apply below_alloc | apply pw_below_drewN | apply below_drew1 | refine below_set ?_ GE101.out) | exact HB.out)⟩
        · rw [if_neg c5] at H
          have c5b0 : decide (0 ≤ a0_3) = false := decide_eq_false c5
          clear c5
          obtain rfl := Option.some.inj H
          go_enter Try.func12, Try.ntmps12
          go_wp2_with (first | ((with_reducible refine gate_store (t := 24) (p := 1) rfl ?_); refine HW.store_box rfl rfl 24 _ _ rfl rfl rfl BK101.out rfl (by kernel_rfl) (by intro q hq; simp only [List.mem_cons, List.not_mem_nil, or_false] at hq; rcases hq with rfl | rfl | rfl | rfl | rfl <;> rfl) ?_; intro w1_ hw1_; simp only [List.toList_toArray, World.setCells, Nat.zero_add, Nat.reduceAdd] at hw1_; subst hw1_) | ((with_reducible refine gate_store (t := 24) (p := 1) rfl ?_); refine HW.store_box rfl rfl 24 _ _ rfl rfl rfl BK101.out rfl (by kernel_rfl) (by intro q hq; simp only [List.mem_cons, List.not_mem_nil, or_false] at hq; rcases hq with rfl | rfl | rfl | rfl | rfl <;> rfl) ?_; intro w1_ hw1_; simp only [List.toList_toArray, World.setCells, Nat.zero_add, Nat.reduceAdd] at hw1_; subst hw1_) | ((with_reducible refine gate_store (t := 24) (p := 1) rfl ?_); refine HW.store_box rfl rfl 24 _ _ rfl rfl rfl BK101.out rfl (by kernel_rfl) (by intro q hq; simp only [List.mem_cons, List.not_mem_nil, or_false] at hq; rcases hq with rfl | rfl | rfl | rfl | rfl <;> rfl) ?_; intro w1_ hw1_; simp only [List.toList_toArray, World.setCells, Nat.zero_add, Nat.reduceAdd] at hw1_; subst hw1_) | ((with_reducible refine gate_store (t := 24) (p := 1) rfl ?_); refine HW.store_box rfl rfl 24 _ _ rfl rfl rfl BK101.out rfl (by kernel_rfl) (by intro q hq; simp only [List.mem_cons, List.not_mem_nil, or_false] at hq; rcases hq with rfl | rfl | rfl | rfl | rfl <;> rfl) ?_; intro w1_ hw1_; simp only [List.toList_toArray, World.setCells, Nat.zero_add, Nat.reduceAdd] at hw1_; subst hw1_) | ((with_reducible refine gate_dst (N := 1) rfl ?_); (try (refine gate_guard (by rfl) ?_; dsimp only)); refine box_event ?hg (N := 1) ?hd (cs := #[.bool true, .int .i64 a0_1, .bool true, .int .i64 a0_3, .slice A0_4 l0_4.length c0_4]) (t := 24) ?hr ?_; (case hd => rfl); (case hg => rfl); (case hr => first | (go_simp; done) | (go_simp; rfl)); intro gb101 hg w11 hbox hb; have n0_ := Aside0.mk (below_step (by repeat (first | (with_reducible first | exact HB.out | apply below_alloc | apply pw_below_drewN | apply below_drew1) | exact HB.out)) hb); have n1_ := Aside0.mk (hbox); have n2_ := Aside0.mk ((by rw [hg]; exact (below_size (by repeat (first | (with_reducible first | exact HB.out | apply below_alloc | apply pw_below_drewN | apply below_drew1) | exact HB.out))) : w.heap.size ≤ gb101)); have n3_ := Aside0.mk ((by rw [hg]; exact (below_size (by repeat (first | (with_reducible first | exact HB.out | apply below_alloc | apply pw_below_drewN | apply below_drew1) | exact HB.out))) : w.heap.size ≤ gb101)); clear HB; have HB := n0_; have BK101 := n1_; have GW101 := n2_; have GE101 := n3_; clear n0_ n1_ n2_ n3_; clear hb hbox hg; have hcz12_0 : w11.cell? ⟨gb101, 0, none⟩ = some (.bool true) := (blk_cell BK101.out 0).trans rfl; have hcz12_1 : w11.cell? ⟨gb101, 1, none⟩ = some (.int .i64 a0_1) := (blk_cell BK101.out 1).trans rfl; have hcz12_2 : w11.cell? ⟨gb101, 2, none⟩ = some (.bool true) := (blk_cell BK101.out 2).trans rfl; have hcz12_3 : w11.cell? ⟨gb101, 3, none⟩ = some (.int .i64 a0_3) := (blk_cell BK101.out 3).trans rfl; have hcz12_4 : w11.cell? ⟨gb101, 4, none⟩ = some (.slice A0_4 l0_4.length c0_4) := (blk_cell BK101.out 4).trans rfl; have hfz12_0 := blk_frozen BK101.out 0; have hfz12_1 := blk_frozen BK101.out 1; have hfz12_2 := blk_frozen BK101.out 2; have hfz12_3 := blk_frozen BK101.out 3; have hfz12_4 := blk_frozen BK101.out 4))
          go_ret
          exact ⟨by first | rfl | (simp [errW_none, errW_some] <;> rfl) | (simp [*, errW_none, errW_some] <;> rfl), by repeat (first | (with_reducible first | exact HB.out | apply below_alloc | apply pw_below_drewN | apply below_drew1 | refine below_set ?_ GE101.out) | exact HB.out)⟩
      · rw [if_neg c4] at H
        have c4b0 : ((a0_1 / 536870912) == 0) = false := beq_eq_false_iff_ne.mpr c4
        have c4b1 : ((a0_1 / 536870912) != 0) = true := bne_iff_ne.mpr c4
        obtain rfl := Option.some.inj H
        go_enter Try.func12, Try.ntmps12
        go_wp2_with (first | ((with_reducible refine gate_store (t := 24) (p := 1) rfl ?_); refine HW.store_box rfl rfl 24 _ _ rfl rfl rfl BK101.out rfl (by kernel_rfl) (by intro q hq; simp only [List.mem_cons, List.not_mem_nil, or_false] at hq; rcases hq with rfl | rfl | rfl | rfl | rfl <;> rfl) ?_; intro w1_ hw1_; simp only [List.toList_toArray, World.setCells, Nat.zero_add, Nat.reduceAdd] at hw1_; subst hw1_) | ((with_reducible refine gate_store (t := 24) (p := 1) rfl ?_); refine HW.store_box rfl rfl 24 _ _ rfl rfl rfl BK101.out rfl (by kernel_rfl) (by intro q hq; simp only [List.mem_cons, List.not_mem_nil, or_false] at hq; rcases hq with rfl | rfl | rfl | rfl | rfl <;> rfl) ?_; intro w1_ hw1_; simp only [List.toList_toArray, World.setCells, Nat.zero_add, Nat.reduceAdd] at hw1_; subst hw1_) | ((with_reducible refine gate_store (t := 24) (p := 1) rfl ?_); refine HW.store_box rfl rfl 24 _ _ rfl rfl rfl BK101.out rfl (by kernel_rfl) (by intro q hq; simp only [List.mem_cons, List.not_mem_nil, or_false] at hq; rcases hq with rfl | rfl | rfl | rfl | rfl <;> rfl) ?_; intro w1_ hw1_; simp only [List.toList_toArray, World.setCells, Nat.zero_add, Nat.reduceAdd] at hw1_; subst hw1_) | ((with_reducible refine gate_store (t := 24) (p := 1) rfl ?_); refine HW.store_box rfl rfl 24 _ _ rfl rfl rfl BK101.out rfl (by kernel_rfl) (by intro q hq; simp only [List.mem_cons, List.not_mem_nil, or_false] at hq; rcases hq with rfl | rfl | rfl | rfl | rfl <;> rfl) ?_; intro w1_ hw1_; simp only [List.toList_toArray, World.setCells, Nat.zero_add, Nat.reduceAdd] at hw1_; subst hw1_) | ((with_reducible refine gate_dst (N := 1) rfl ?_); (try (refine gate_guard (by rfl) ?_; dsimp only)); refine box_event ?hg (N := 1) ?hd (cs := #[.bool true, .int .i64 a0_1, .bool true, .int .i64 a0_3, .slice A0_4 l0_4.length c0_4]) (t := 24) ?hr ?_; (case hd => rfl); (case hg => rfl); (case hr => first | (go_simp; done) | (go_simp; rfl)); intro gb101 hg w13 hbox hb; have n0_ := Aside0.mk (below_step (by repeat (first | (with_reducible first | exact HB.out | apply below_alloc | apply pw_below_drewN | apply below_drew1) | exact HB.out)) hb); have n1_ := Aside0.mk (hbox); have n2_ := Aside0.mk ((by rw [hg]; exact (below_size (by repeat (first | (with_reducible first | exact HB.out | apply below_alloc | apply pw_below_drewN | apply below_drew1) | exact HB.out))) : w.heap.size ≤ gb101)); have n3_ := Aside0.mk ((by rw [hg]; exact (below_size (by repeat (first | (with_reducible first | exact HB.out | apply below_alloc | apply pw_below_drewN | apply below_drew1) | exact HB.out))) : w.heap.size ≤ gb101)); clear HB; have HB := n0_; have BK101 := n1_; have GW101 := n2_; have GE101 := n3_; clear n0_ n1_ n2_ n3_; clear hb hbox hg; have hcz14_0 : w13.cell? ⟨gb101, 0, none⟩ = some (.bool true) := (blk_cell BK101.out 0).trans rfl; have hcz14_1 : w13.cell? ⟨gb101, 1, none⟩ = some (.int .i64 a0_1) := (blk_cell BK101.out 1).trans rfl; have hcz14_2 : w13.cell? ⟨gb101, 2, none⟩ = some (.bool true) := (blk_cell BK101.out 2).trans rfl; have hcz14_3 : w13.cell? ⟨gb101, 3, none⟩ = some (.int .i64 a0_3) := (blk_cell BK101.out 3).trans rfl; have hcz14_4 : w13.cell? ⟨gb101, 4, none⟩ = some (.slice A0_4 l0_4.length c0_4) := (blk_cell BK101.out 4).trans rfl; have hfz14_0 := blk_frozen BK101.out 0; have hfz14_1 := blk_frozen BK101.out 1; have hfz14_2 := blk_frozen BK101.out 2; have hfz14_3 := blk_frozen BK101.out 3; have hfz14_4 := blk_frozen BK101.out 4))
        go_ret
        exact ⟨by first | rfl | (simp [errW_none, errW_some] <;> rfl) | (simp [*, errW_none, errW_some] <;> rfl), by repeat (first | (with_reducible first | exact HB.out | apply below_alloc | apply pw_below_drewN | apply below_drew1 | refine below_set ?_ GE101.out) | exact HB.out)⟩
    · replace c3 := Bool.eq_false_iff.mpr c3
      subst c3
      have H1 : (if (a0_1 / 536870912) = 0 then (if a0_3 ≥ 0 then (if a0_3 ≤ 8 then (some ((l0_4.length : Int) == a0_3)) else (some false)) else (some false)) else (some false)) = some r := by rw [if_neg (show ¬ (false = true) by decide)] at H; exact H
      clear H
      have H := H1
      clear H1
      by_cases c15 : (a0_1 / 536870912) = 0
      · rw [if_pos c15] at H
        have c15b0 : ((a0_1 / 536870912) == 0) = true := beq_iff_eq.mpr c15
        have c15b1 : ((a0_1 / 536870912) != 0) = false := bne_eq_false_iff_eq.mpr c15
        clear c15
        by_cases c16 : a0_3 ≥ 0
        · rw [if_pos c16] at H
          have c16b0 : decide (0 ≤ a0_3) = true := decide_eq_true c16
          clear c16
          by_cases c17 : a0_3 ≤ 8
          · rw [if_pos c17] at H
            have c17b0 : decide (a0_3 ≤ 8) = true := decide_eq_true c17
            clear c17
            obtain rfl := Option.some.inj H
            go_enter Try.func12, Try.ntmps12
            go_wp2_with (first | ((with_reducible refine gate_store (t := 24) (p := 1) rfl ?_); refine HW.store_box rfl rfl 24 _ _ rfl rfl rfl BK101.out rfl (by kernel_rfl) (by intro q hq; simp only [List.mem_cons, List.not_mem_nil, or_false] at hq; rcases hq with rfl | rfl | rfl | rfl | rfl <;> rfl) ?_; intro w1_ hw1_; simp only [List.toList_toArray, World.setCells, Nat.zero_add, Nat.reduceAdd] at hw1_; subst hw1_) | ((with_reducible refine gate_store (t := 24) (p := 1) rfl ?_); refine HW.store_box rfl rfl 24 _ _ rfl rfl rfl BK101.out rfl (by kernel_rfl) (by intro q hq; simp only [List.mem_cons, List.not_mem_nil, or_false] at hq; rcases hq with rfl | rfl | rfl | rfl | rfl <;> rfl) ?_; intro w1_ hw1_; simp only [List.toList_toArray, World.setCells, Nat.zero_add, Nat.reduceAdd] at hw1_; subst hw1_) | ((with_reducible refine gate_store (t := 24) (p := 1) rfl ?_); refine HW.store_box rfl rfl 24 _ _ rfl rfl rfl BK101.out rfl (by kernel_rfl) (by intro q hq; simp only [List.mem_cons, List.not_mem_nil, or_false] at hq; rcases hq with rfl | rfl | rfl | rfl | rfl <;> rfl) ?_; intro w1_ hw1_; simp only [List.toList_toArray, World.setCells, Nat.zero_add, Nat.reduceAdd] at hw1_; subst hw1_) | ((with_reducible refine gate_store (t := 24) (p := 1) rfl ?_); refine HW.store_box rfl rfl 24 _ _ rfl rfl rfl BK101.out rfl (by kernel_rfl) (by intro q hq; simp only [List.mem_cons, List.not_mem_nil, or_false] at hq; rcases hq with rfl | rfl | rfl | rfl | rfl <;> rfl) ?_; intro w1_ hw1_; simp only [List.toList_toArray, World.setCells, Nat.zero_add, Nat.reduceAdd] at hw1_; subst hw1_) | ((with_reducible refine gate_dst (N := 1) rfl ?_); (try (refine gate_guard (by rfl) ?_; dsimp only)); refine box_event ?hg (N := 1) ?hd (cs := #[.bool true, .int .i64 a0_1, .bool false, .int .i64 a0_3, .slice A0_4 l0_4.length c0_4]) (t := 24) ?hr ?_; (case hd => rfl); (case hg => rfl); (case hr => first | (go_simp; done) | (go_simp; rfl)); intro gb101 hg w18 hbox hb; have n0_ := Aside0.mk (below_step (by repeat (first | (with_reducible first | exact HB.out | apply below_alloc | apply pw_below_drewN | apply below_drew1) | exact HB.out)) hb); have n1_ := Aside0.mk (hbox); have n2_ := Aside0.mk ((by rw [hg]; exact (below_size (by repeat (first | (with_reducible first | exact HB.out | apply below_alloc | apply pw_below_drewN | apply below_drew1) | exact HB.out))) : w.heap.size ≤ gb101)); have n3_ := Aside0.mk ((by rw [hg]; exact (below_size (by repeat (first | (with_reducible first | exact HB.out | apply below_alloc | apply pw_below_drewN | apply below_drew1) | exact HB.out))) : w.heap.size ≤ gb101)); clear HB; have HB := n0_; have BK101 := n1_; have GW101 := n2_; have GE101 := n3_; clear n0_ n1_ n2_ n3_; clear hb hbox hg; have hcz19_0 : w18.cell? ⟨gb101, 0, none⟩ = some (.bool true) := (blk_cell BK101.out 0).trans rfl; have hcz19_1 : w18.cell? ⟨gb101, 1, none⟩ = some (.int .i64 a0_1) := (blk_cell BK101.out 1).trans rfl; have hcz19_2 : w18.cell? ⟨gb101, 2, none⟩ = some (.bool false) := (blk_cell BK101.out 2).trans rfl; have hcz19_3 : w18.cell? ⟨gb101, 3, none⟩ = some (.int .i64 a0_3) := (blk_cell BK101.out 3).trans rfl; have hcz19_4 : w18.cell? ⟨gb101, 4, none⟩ = some (.slice A0_4 l0_4.length c0_4) := (blk_cell BK101.out 4).trans rfl; have hfz19_0 := blk_frozen BK101.out 0; have hfz19_1 := blk_frozen BK101.out 1; have hfz19_2 := blk_frozen BK101.out 2; have hfz19_3 := blk_frozen BK101.out 3; have hfz19_4 := blk_frozen BK101.out 4))
            go_ret
            exact ⟨by first | rfl | (simp [errW_none, errW_some] <;> rfl) | (simp [*, errW_none, errW_some] <;> rfl), by repeat (first | (with_reducible first | exact HB.out | apply below_alloc | apply pw_below_drewN | apply below_drew1 | refine below_set ?_ GE101.out) | exact HB.out)⟩
          · rw [if_neg c17] at H
            have c17b0 : decide (a0_3 ≤ 8) = false := decide_eq_false c17
            clear c17
            obtain rfl := Option.some.inj H
            go_enter Try.func12, Try.ntmps12
            go_wp2_with (first | ((with_reducible refine gate_store (t := 24) (p := 1) rfl ?_); refine HW.store_box rfl rfl 24 _ _ rfl rfl rfl BK101.out rfl (by kernel_rfl) (by intro q hq; simp only [List.mem_cons, List.not_mem_nil, or_false] at hq; rcases hq with rfl | rfl | rfl | rfl | rfl <;> rfl) ?_; intro w1_ hw1_; simp only [List.toList_toArray, World.setCells, Nat.zero_add, Nat.reduceAdd] at hw1_; subst hw1_) | ((with_reducible refine gate_store (t := 24) (p := 1) rfl ?_); refine HW.store_box rfl rfl 24 _ _ rfl rfl rfl BK101.out rfl (by kernel_rfl) (by intro q hq; simp only [List.mem_cons, List.not_mem_nil, or_false] at hq; rcases hq with rfl | rfl | rfl | rfl | rfl <;> rfl) ?_; intro w1_ hw1_; simp only [List.toList_toArray, World.setCells, Nat.zero_add, Nat.reduceAdd] at hw1_; subst hw1_) | ((with_reducible refine gate_store (t := 24) (p := 1) rfl ?_); refine HW.store_box rfl rfl 24 _ _ rfl rfl rfl BK101.out rfl (by kernel_rfl) (by intro q hq; simp only [List.mem_cons, List.not_mem_nil, or_false] at hq; rcases hq with rfl | rfl | rfl | rfl | rfl <;> rfl) ?_; intro w1_ hw1_; simp only [List.toList_toArray, World.setCells, Nat.zero_add, Nat.reduceAdd] at hw1_; subst hw1_) | ((with_reducible refine gate_store (t := 24) (p := 1) rfl ?_); refine HW.store_box rfl rfl 24 _ _ rfl rfl rfl BK101.out rfl (by kernel_rfl) (by intro q hq; simp only [List.mem_cons, List.not_mem_nil, or_false] at hq; rcases hq with rfl | rfl | rfl | rfl | rfl <;> rfl) ?_; intro w1_ hw1_; simp only [List.toList_toArray, World.setCells, Nat.zero_add, Nat.reduceAdd] at hw1_; subst hw1_) | ((with_reducible refine gate_dst (N := 1) rfl ?_); (try (refine gate_guard (by rfl) ?_; dsimp only)); refine box_event ?hg (N := 1) ?hd (cs := #[.bool true, .int .i64 a0_1, .bool false, .int .i64 a0_3, .slice A0_4 l0_4.length c0_4]) (t := 24) ?hr ?_; (case hd => rfl); (case hg => rfl); (case hr => first | (go_simp; done) | (go_simp; rfl)); intro gb101 hg w20 hbox hb; have n0_ := Aside0.mk (below_step (by repeat (first | (with_reducible first | exact HB.out | apply below_alloc | apply pw_below_drewN | apply below_drew1) | exact HB.out)) hb); have n1_ := Aside0.mk (hbox); have n2_ := Aside0.mk ((by rw [hg]; exact (below_size (by repeat (first | (with_reducible first | exact HB.out | apply below_alloc | apply pw_below_drewN | apply below_drew1) | exact HB.out))) : w.heap.size ≤ gb101)); have n3_ := Aside0.mk ((by rw [hg]; exact (below_size (by repeat (first | (with_reducible first | exact HB.out | apply below_alloc | apply pw_below_drewN | apply below_drew1) | exact HB.out))) : w.heap.size ≤ gb101)); clear HB; have HB := n0_; have BK101 := n1_; have GW101 := n2_; have GE101 := n3_; clear n0_ n1_ n2_ n3_; clear hb hbox hg; have hcz21_0 : w20.cell? ⟨gb101, 0, none⟩ = some (.bool true) := (blk_cell BK101.out 0).trans rfl; have hcz21_1 : w20.cell? ⟨gb101, 1, none⟩ = some (.int .i64 a0_1) := (blk_cell BK101.out 1).trans rfl; have hcz21_2 : w20.cell? ⟨gb101, 2, none⟩ = some (.bool false) := (blk_cell BK101.out 2).trans rfl; have hcz21_3 : w20.cell? ⟨gb101, 3, none⟩ = some (.int .i64 a0_3) := (blk_cell BK101.out 3).trans rfl; have hcz21_4 : w20.cell? ⟨gb101, 4, none⟩ = some (.slice A0_4 l0_4.length c0_4) := (blk_cell BK101.out 4).trans rfl; have hfz21_0 := blk_frozen BK101.out 0; have hfz21_1 := blk_frozen BK101.out 1; have hfz21_2 := blk_frozen BK101.out 2; have hfz21_3 := blk_frozen BK101.out 3; have hfz21_4 := blk_frozen BK101.out 4))
            go_ret
            exact ⟨by first | rfl | (simp [errW_none, errW_some] <;> rfl) | (simp [*, errW_none, errW_some] <;> rfl), by repeat (first | (with_reducible first | exact HB.out | apply below_alloc | apply pw_below_drewN | apply below_drew1 | refine below_set ?_ GE101.out) | exact HB.out)⟩
        · rw [if_neg c16] at H
          have c16b0 : decide (0 ≤ a0_3) = false := decide_eq_false c16
          clear c16
          obtain rfl := Option.some.inj H
          go_enter Try.func12, Try.ntmps12
          go_wp2_with (first | ((with_reducible refine gate_store (t := 24) (p := 1) rfl ?_); refine HW.store_box rfl rfl 24 _ _ rfl rfl rfl BK101.out rfl (by kernel_rfl) (by intro q hq; simp only [List.mem_cons, List.not_mem_nil, or_false] at hq; rcases hq with rfl | rfl | rfl | rfl | rfl <;> rfl) ?_; intro w1_ hw1_; simp only [List.toList_toArray, World.setCells, Nat.zero_add, Nat.reduceAdd] at hw1_; subst hw1_) | ((with_reducible refine gate_store (t := 24) (p := 1) rfl ?_); refine HW.store_box rfl rfl 24 _ _ rfl rfl rfl BK101.out rfl (by kernel_rfl) (by intro q hq; simp only [List.mem_cons, List.not_mem_nil, or_false] at hq; rcases hq with rfl | rfl | rfl | rfl | rfl <;> rfl) ?_; intro w1_ hw1_; simp only [List.toList_toArray, World.setCells, Nat.zero_add, Nat.reduceAdd] at hw1_; subst hw1_) | ((with_reducible refine gate_store (t := 24) (p := 1) rfl ?_); refine HW.store_box rfl rfl 24 _ _ rfl rfl rfl BK101.out rfl (by kernel_rfl) (by intro q hq; simp only [List.mem_cons, List.not_mem_nil, or_false] at hq; rcases hq with rfl | rfl | rfl | rfl | rfl <;> rfl) ?_; intro w1_ hw1_; simp only [List.toList_toArray, World.setCells, Nat.zero_add, Nat.reduceAdd] at hw1_; subst hw1_) | ((with_reducible refine gate_store (t := 24) (p := 1) rfl ?_); refine HW.store_box rfl rfl 24 _ _ rfl rfl rfl BK101.out rfl (by kernel_rfl) (by intro q hq; simp only [List.mem_cons, List.not_mem_nil, or_false] at hq; rcases hq with rfl | rfl | rfl | rfl | rfl <;> rfl) ?_; intro w1_ hw1_; simp only [List.toList_toArray, World.setCells, Nat.zero_add, Nat.reduceAdd] at hw1_; subst hw1_) | ((with_reducible refine gate_dst (N := 1) rfl ?_); (try (refine gate_guard (by rfl) ?_; dsimp only)); refine box_event ?hg (N := 1) ?hd (cs := #[.bool true, .int .i64 a0_1, .bool false, .int .i64 a0_3, .slice A0_4 l0_4.length c0_4]) (t := 24) ?hr ?_; (case hd => rfl); (case hg => rfl); (case hr => first | (go_simp; done) | (go_simp; rfl)); intro gb101 hg w22 hbox hb; have n0_ := Aside0.mk (below_step (by repeat (first | (with_reducible first | exact HB.out | apply below_alloc | apply pw_below_drewN | apply below_drew1) | exact HB.out)) hb); have n1_ := Aside0.mk (hbox); have n2_ := Aside0.mk ((by rw [hg]; exact (below_size (by repeat (first | (with_reducible first | exact HB.out | apply below_alloc | apply pw_below_drewN | apply below_drew1) | exact HB.out))) : w.heap.size ≤ gb101)); have n3_ := Aside0.mk ((by rw [hg]; exact (below_size (by repeat (first | (with_reducible first | exact HB.out | apply below_alloc | apply pw_below_drewN | apply below_drew1) | exact HB.out))) : w.heap.size ≤ gb101)); clear HB; have HB := n0_; have BK101 := n1_; have GW101 := n2_; have GE101 := n3_; clear n0_ n1_ n2_ n3_; clear hb hbox hg; have hcz23_0 : w22.cell? ⟨gb101, 0, none⟩ = some (.bool true) := (blk_cell BK101.out 0).trans rfl; have hcz23_1 : w22.cell? ⟨gb101, 1, none⟩ = some (.int .i64 a0_1) := (blk_cell BK101.out 1).trans rfl; have hcz23_2 : w22.cell? ⟨gb101, 2, none⟩ = some (.bool false) := (blk_cell BK101.out 2).trans rfl; have hcz23_3 : w22.cell? ⟨gb101, 3, none⟩ = some (.int .i64 a0_3) := (blk_cell BK101.out 3).trans rfl; have hcz23_4 : w22.cell? ⟨gb101, 4, none⟩ = some (.slice A0_4 l0_4.length c0_4) := (blk_cell BK101.out 4).trans rfl; have hfz23_0 := blk_frozen BK101.out 0; have hfz23_1 := blk_frozen BK101.out 1; have hfz23_2 := blk_frozen BK101.out 2; have hfz23_3 := blk_frozen BK101.out 3; have hfz23_4 := blk_frozen BK101.out 4))
          go_ret
          exact ⟨by first | rfl | (simp [errW_none, errW_some] <;> rfl) | (simp [*, errW_none, errW_some] <;> rfl), by repeat (first | (with_reducible first | exact HB.out | apply below_alloc | apply pw_below_drewN | apply below_drew1 | refine below_set ?_ GE101.out) | exact HB.out)⟩
      · rw [if_neg c15] at H
        have c15b0 : ((a0_1 / 536870912) == 0) = false := beq_eq_false_iff_ne.mpr c15
        have c15b1 : ((a0_1 / 536870912) != 0) = true := bne_iff_ne.mpr c15
        obtain rfl := Option.some.inj H
        go_enter Try.func12, Try.ntmps12
        go_wp2_with (first | ((with_reducible refine gate_store (t := 24) (p := 1) rfl ?_); refine HW.store_box rfl rfl 24 _ _ rfl rfl rfl BK101.out rfl (by kernel_rfl) (by intro q hq; simp only [List.mem_cons, List.not_mem_nil, or_false] at hq; rcases hq with rfl | rfl | rfl | rfl | rfl <;> rfl) ?_; intro w1_ hw1_; simp only [List.toList_toArray, World.setCells, Nat.zero_add, Nat.reduceAdd] at hw1_; subst hw1_) | ((with_reducible refine gate_store (t := 24) (p := 1) rfl ?_); refine HW.store_box rfl rfl 24 _ _ rfl rfl rfl BK101.out rfl (by kernel_rfl) (by intro q hq; simp only [List.mem_cons, List.not_mem_nil, or_false] at hq; rcases hq with rfl | rfl | rfl | rfl | rfl <;> rfl) ?_; intro w1_ hw1_; simp only [List.toList_toArray, World.setCells, Nat.zero_add, Nat.reduceAdd] at hw1_; subst hw1_) | ((with_reducible refine gate_store (t := 24) (p := 1) rfl ?_); refine HW.store_box rfl rfl 24 _ _ rfl rfl rfl BK101.out rfl (by kernel_rfl) (by intro q hq; simp only [List.mem_cons, List.not_mem_nil, or_false] at hq; rcases hq with rfl | rfl | rfl | rfl | rfl <;> rfl) ?_; intro w1_ hw1_; simp only [List.toList_toArray, World.setCells, Nat.zero_add, Nat.reduceAdd] at hw1_; subst hw1_) | ((with_reducible refine gate_store (t := 24) (p := 1) rfl ?_); refine HW.store_box rfl rfl 24 _ _ rfl rfl rfl BK101.out rfl (by kernel_rfl) (by intro q hq; simp only [List.mem_cons, List.not_mem_nil, or_false] at hq; rcases hq with rfl | rfl | rfl | rfl | rfl <;> rfl) ?_; intro w1_ hw1_; simp only [List.toList_toArray, World.setCells, Nat.zero_add, Nat.reduceAdd] at hw1_; subst hw1_) | ((with_reducible refine gate_dst (N := 1) rfl ?_); (try (refine gate_guard (by rfl) ?_; dsimp only)); refine box_event ?hg (N := 1) ?hd (cs := #[.bool true, .int .i64 a0_1, .bool false, .int .i64 a0_3, .slice A0_4 l0_4.length c0_4]) (t := 24) ?hr ?_; (case hd => rfl); (case hg => rfl); (case hr => first | (go_simp; done) | (go_simp; rfl)); intro gb101 hg w24 hbox hb; have n0_ := Aside0.mk (below_step (by repeat (first | (with_reducible first | exact HB.out | apply below_alloc | apply pw_below_drewN | apply below_drew1) | exact HB.out)) hb); have n1_ := Aside0.mk (hbox); have n2_ := Aside0.mk ((by rw [hg]; exact (below_size (by repeat (first | (with_reducible first | exact HB.out | apply below_alloc | apply pw_below_drewN | apply below_drew1) | exact HB.out))) : w.heap.size ≤ gb101)); have n3_ := Aside0.mk ((by rw [hg]; exact (below_size (by repeat (first | (with_reducible first | exact HB.out | apply below_alloc | apply pw_below_drewN | apply below_drew1) | exact HB.out))) : w.heap.size ≤ gb101)); clear HB; have HB := n0_; have BK101 := n1_; have GW101 := n2_; have GE101 := n3_; clear n0_ n1_ n2_ n3_; clear hb hbox hg; have hcz25_0 : w24.cell? ⟨gb101, 0, none⟩ = some (.bool true) := (blk_cell BK101.out 0).trans rfl; have hcz25_1 : w24.cell? ⟨gb101, 1, none⟩ = some (.int .i64 a0_1) := (blk_cell BK101.out 1).trans rfl; have hcz25_2 : w24.cell? ⟨gb101, 2, none⟩ = some (.bool false) := (blk_cell BK101.out 2).trans rfl; have hcz25_3 : w24.cell? ⟨gb101, 3, none⟩ = some (.int .i64 a0_3) := (blk_cell BK101.out 3).trans rfl; have hcz25_4 : w24.cell? ⟨gb101, 4, none⟩ = some (.slice A0_4 l0_4.length c0_4) := (blk_cell BK101.out 4).trans rfl; have hfz25_0 := blk_frozen BK101.out 0; have hfz25_1 := blk_frozen BK101.out 1; have hfz25_2 := blk_frozen BK101.out 2; have hfz25_3 := blk_frozen BK101.out 3; have hfz25_4 := blk_frozen BK101.out 4))
        go_ret
        exact ⟨by first | rfl | (simp [errW_none, errW_some] <;> rfl) | (simp [*, errW_none, errW_some] <;> rfl), by repeat (first | (with_reducible first | exact HB.out | apply below_alloc | apply pw_below_drewN | apply below_drew1 | refine below_set ?_ GE101.out) | exact HB.out)⟩
  · replace c2 := Bool.eq_false_iff.mpr c2
    subst c2
    have H1 : (if a0_2 = true then (if (a0_1 / 2048) = 0 then (if a0_3 ≥ 0 then (if a0_3 ≤ 8 then (some ((l0_4.length : Int) == 0)) else (some false)) else (some false)) else (some false)) else (if (a0_1 / 2048) = 0 then (if a0_3 ≥ 0 then (if a0_3 ≤ 8 then (some ((l0_4.length : Int) == a0_3)) else (some false)) else (some false)) else (some false))) = some r := by rw [if_neg (show ¬ (false = true) by decide)] at H; exact H
    clear H
    have H := H1
    clear H1
    by_cases c26 : a0_2 = true
    · subst c26
      have H1 : (if (a0_1 / 2048) = 0 then (if a0_3 ≥ 0 then (if a0_3 ≤ 8 then (some ((l0_4.length : Int) == 0)) else (some false)) else (some false)) else (some false)) = some r := by rw [if_pos rfl] at H; exact H
      clear H
      have H := H1
      clear H1
      by_cases c27 : (a0_1 / 2048) = 0
      · rw [if_pos c27] at H
        have c27b0 : ((a0_1 / 2048) == 0) = true := beq_iff_eq.mpr c27
        have c27b1 : ((a0_1 / 2048) != 0) = false := bne_eq_false_iff_eq.mpr c27
        clear c27
        by_cases c28 : a0_3 ≥ 0
        · rw [if_pos c28] at H
          have c28b0 : decide (0 ≤ a0_3) = true := decide_eq_true c28
          clear c28
          by_cases c29 : a0_3 ≤ 8
          · rw [if_pos c29] at H
            have c29b0 : decide (a0_3 ≤ 8) = true := decide_eq_true c29
            clear c29
            obtain rfl := Option.some.inj H
            go_enter Try.func12, Try.ntmps12
            go_wp2_with (first | ((with_reducible refine gate_store (t := 24) (p := 1) rfl ?_); refine HW.store_box rfl rfl 24 _ _ rfl rfl rfl BK101.out rfl (by kernel_rfl) (by intro q hq; simp only [List.mem_cons, List.not_mem_nil, or_false] at hq; rcases hq with rfl | rfl | rfl | rfl | rfl <;> rfl) ?_; intro w1_ hw1_; simp only [List.toList_toArray, World.setCells, Nat.zero_add, Nat.reduceAdd] at hw1_; subst hw1_) | ((with_reducible refine gate_store (t := 24) (p := 1) rfl ?_); refine HW.store_box rfl rfl 24 _ _ rfl rfl rfl BK101.out rfl (by kernel_rfl) (by intro q hq; simp only [List.mem_cons, List.not_mem_nil, or_false] at hq; rcases hq with rfl | rfl | rfl | rfl | rfl <;> rfl) ?_; intro w1_ hw1_; simp only [List.toList_toArray, World.setCells, Nat.zero_add, Nat.reduceAdd] at hw1_; subst hw1_) | ((with_reducible refine gate_store (t := 24) (p := 1) rfl ?_); refine HW.store_box rfl rfl 24 _ _ rfl rfl rfl BK101.out rfl (by kernel_rfl) (by intro q hq; simp only [List.mem_cons, List.not_mem_nil, or_false] at hq; rcases hq with rfl | rfl | rfl | rfl | rfl <;> rfl) ?_; intro w1_ hw1_; simp only [List.toList_toArray, World.setCells, Nat.zero_add, Nat.reduceAdd] at hw1_; subst hw1_) | ((with_reducible refine gate_store (t := 24) (p := 1) rfl ?_); refine HW.store_box rfl rfl 24 _ _ rfl rfl rfl BK101.out rfl (by kernel_rfl) (by intro q hq; simp only [List.mem_cons, List.not_mem_nil, or_false] at hq; rcases hq with rfl | rfl | rfl | rfl | rfl <;> rfl) ?_; intro w1_ hw1_; simp only [List.toList_toArray, World.setCells, Nat.zero_add, Nat.reduceAdd] at hw1_; subst hw1_) | ((with_reducible refine gate_dst (N := 1) rfl ?_); (try (refine gate_guard (by rfl) ?_; dsimp only)); refine box_event ?hg (N := 1) ?hd (cs := #[.bool false, .int .i64 a0_1, .bool true, .int .i64 a0_3, .slice A0_4 l0_4.length c0_4]) (t := 24) ?hr ?_; (case hd => rfl); (case hg => rfl); (case hr => first | (go_simp; done) | (go_simp; rfl)); intro gb101 hg w30 hbox hb; have n0_ := Aside0.mk (below_step (by repeat (first | (with_reducible first | exact HB.out | apply below_alloc | apply pw_below_drewN | apply below_drew1) | exact HB.out)) hb); have n1_ := Aside0.mk (hbox); have n2_ := Aside0.mk ((by rw [hg]; exact (below_size (by repeat (first | (with_reducible first | exact HB.out | apply below_alloc | apply pw_below_drewN | apply below_drew1) | exact HB.out))) : w.heap.size ≤ gb101)); have n3_ := Aside0.mk ((by rw [hg]; exact (below_size (by repeat (first | (with_reducible first | exact HB.out | apply below_alloc | apply pw_below_drewN | apply below_drew1) | exact HB.out))) : w.heap.size ≤ gb101)); clear HB; have HB := n0_; have BK101 := n1_; have GW101 := n2_; have GE101 := n3_; clear n0_ n1_ n2_ n3_; clear hb hbox hg; have hcz31_0 : w30.cell? ⟨gb101, 0, none⟩ = some (.bool false) := (blk_cell BK101.out 0).trans rfl; have hcz31_1 : w30.cell? ⟨gb101, 1, none⟩ = some (.int .i64 a0_1) := (blk_cell BK101.out 1).trans rfl; have hcz31_2 : w30.cell? ⟨gb101, 2, none⟩ = some (.bool true) := (blk_cell BK101.out 2).trans rfl; have hcz31_3 : w30.cell? ⟨gb101, 3, none⟩ = some (.int .i64 a0_3) := (blk_cell BK101.out 3).trans rfl; have hcz31_4 : w30.cell? ⟨gb101, 4, none⟩ = some (.slice A0_4 l0_4.length c0_4) := (blk_cell BK101.out 4).trans rfl; have hfz31_0 := blk_frozen BK101.out 0; have hfz31_1 := blk_frozen BK101.out 1; have hfz31_2 := blk_frozen BK101.out 2; have hfz31_3 := blk_frozen BK101.out 3; have hfz31_4 := blk_frozen BK101.out 4))
            go_ret
            exact ⟨by first | rfl | (simp [errW_none, errW_some] <;> rfl) | (simp [*, errW_none, errW_some] <;> rfl), by repeat (first | (with_reducible first | exact HB.out | apply below_alloc | apply pw_below_drewN | apply below_drew1 | refine below_set ?_ GE101.out) | exact HB.out)⟩
          · rw [if_neg c29] at H
            have c29b0 : decide (a0_3 ≤ 8) = false := decide_eq_false c29
            clear c29
            obtain rfl := Option.some.inj H
            go_enter Try.func12, Try.ntmps12
            go_wp2_with (first | ((with_reducible refine gate_store (t := 24) (p := 1) rfl ?_); refine HW.store_box rfl rfl 24 _ _ rfl rfl rfl BK101.out rfl (by kernel_rfl) (by intro q hq; simp only [List.mem_cons, List.not_mem_nil, or_false] at hq; rcases hq with rfl | rfl | rfl | rfl | rfl <;> rfl) ?_; intro w1_ hw1_; simp only [List.toList_toArray, World.setCells, Nat.zero_add, Nat.reduceAdd] at hw1_; subst hw1_) | ((with_reducible refine gate_store (t := 24) (p := 1) rfl ?_); refine HW.store_box rfl rfl 24 _ _ rfl rfl rfl BK101.out rfl (by kernel_rfl) (by intro q hq; simp only [List.mem_cons, List.not_mem_nil, or_false] at hq; rcases hq with rfl | rfl | rfl | rfl | rfl <;> rfl) ?_; intro w1_ hw1_; simp only [List.toList_toArray, World.setCells, Nat.zero_add, Nat.reduceAdd] at hw1_; subst hw1_) | ((with_reducible refine gate_store (t := 24) (p := 1) rfl ?_); refine HW.store_box rfl rfl 24 _ _ rfl rfl rfl BK101.out rfl (by kernel_rfl) (by intro q hq; simp only [List.mem_cons, List.not_mem_nil, or_false] at hq; rcases hq with rfl | rfl | rfl | rfl | rfl <;> rfl) ?_; intro w1_ hw1_; simp only [List.toList_toArray, World.setCells, Nat.zero_add, Nat.reduceAdd] at hw1_; subst hw1_) | ((with_reducible refine gate_store (t := 24) (p := 1) rfl ?_); refine HW.store_box rfl rfl 24 _ _ rfl rfl rfl BK101.out rfl (by kernel_rfl) (by intro q hq; simp only [List.mem_cons, List.not_mem_nil, or_false] at hq; rcases hq with rfl | rfl | rfl | rfl | rfl <;> rfl) ?_; intro w1_ hw1_; simp only [List.toList_toArray, World.setCells, Nat.zero_add, Nat.reduceAdd] at hw1_; subst hw1_) | ((with_reducible refine gate_dst (N := 1) rfl ?_); (try (refine gate_guard (by rfl) ?_; dsimp only)); refine box_event ?hg (N := 1) ?hd (cs := #[.bool false, .int .i64 a0_1, .bool true, .int .i64 a0_3, .slice A0_4 l0_4.length c0_4]) (t := 24) ?hr ?_; (case hd => rfl); (case hg => rfl); (case hr => first | (go_simp; done) | (go_simp; rfl)); intro gb101 hg w32 hbox hb; have n0_ := Aside0.mk (below_step (by repeat (first | (with_reducible first | exact HB.out | apply below_alloc | apply pw_below_drewN | apply below_drew1) | exact HB.out)) hb); have n1_ := Aside0.mk (hbox); have n2_ := Aside0.mk ((by rw [hg]; exact (below_size (by repeat (first | (with_reducible first | exact HB.out | apply below_alloc | apply pw_below_drewN | apply below_drew1) | exact HB.out))) : w.heap.size ≤ gb101)); have n3_ := Aside0.mk ((by rw [hg]; exact (below_size (by repeat (first | (with_reducible first | exact HB.out | apply below_alloc | apply pw_below_drewN | apply below_drew1) | exact HB.out))) : w.heap.size ≤ gb101)); clear HB; have HB := n0_; have BK101 := n1_; have GW101 := n2_; have GE101 := n3_; clear n0_ n1_ n2_ n3_; clear hb hbox hg; have hcz33_0 : w32.cell? ⟨gb101, 0, none⟩ = some (.bool false) := (blk_cell BK101.out 0).trans rfl; have hcz33_1 : w32.cell? ⟨gb101, 1, none⟩ = some (.int .i64 a0_1) := (blk_cell BK101.out 1).trans rfl; have hcz33_2 : w32.cell? ⟨gb101, 2, none⟩ = some (.bool true) := (blk_cell BK101.out 2).trans rfl; have hcz33_3 : w32.cell? ⟨gb101, 3, none⟩ = some (.int .i64 a0_3) := (blk_cell BK101.out 3).trans rfl; have hcz33_4 : w32.cell? ⟨gb101, 4, none⟩ = some (.slice A0_4 l0_4.length c0_4) := (blk_cell BK101.out 4).trans rfl; have hfz33_0 := blk_frozen BK101.out 0; have hfz33_1 := blk_frozen BK101.out 1; have hfz33_2 := blk_frozen BK101.out 2; have hfz33_3 := blk_frozen BK101.out 3; have hfz33_4 := blk_frozen BK101.out 4))
            go_ret
            exact ⟨by first | rfl | (simp [errW_none, errW_some] <;> rfl) | (simp [*, errW_none, errW_some] <;> rfl), by repeat (first | (with_reducible first | exact HB.out | apply below_alloc | apply pw_below_drewN | apply below_drew1 | refine below_set ?_ GE101.out) | exact HB.out)⟩
        · rw [if_neg c28] at H
          have c28b0 : decide (0 ≤ a0_3) = false := decide_eq_false c28
          clear c28
          obtain rfl := Option.some.inj H
          go_enter Try.func12, Try.ntmps12
          go_wp2_with (first | ((with_reducible refine gate_store (t := 24) (p := 1) rfl ?_); refine HW.store_box rfl rfl 24 _ _ rfl rfl rfl BK101.out rfl (by kernel_rfl) (by intro q hq; simp only [List.mem_cons, List.not_mem_nil, or_false] at hq; rcases hq with rfl | rfl | rfl | rfl | rfl <;> rfl) ?_; intro w1_ hw1_; simp only [List.toList_toArray, World.setCells, Nat.zero_add, Nat.reduceAdd] at hw1_; subst hw1_) | ((with_reducible refine gate_store (t := 24) (p := 1) rfl ?_); refine HW.store_box rfl rfl 24 _ _ rfl rfl rfl BK101.out rfl (by kernel_rfl) (by intro q hq; simp only [List.mem_cons, List.not_mem_nil, or_false] at hq; rcases hq with rfl | rfl | rfl | rfl | rfl <;> rfl) ?_; intro w1_ hw1_; simp only [List.toList_toArray, World.setCells, Nat.zero_add, Nat.reduceAdd] at hw1_; subst hw1_) | ((with_reducible refine gate_store (t := 24) (p := 1) rfl ?_); refine HW.store_box rfl rfl 24 _ _ rfl rfl rfl BK101.out rfl (by kernel_rfl) (by intro q hq; simp only [List.mem_cons, List.not_mem_nil, or_false] at hq; rcases hq with rfl | rfl | rfl | rfl | rfl <;> rfl) ?_; intro w1_ hw1_; simp only [List.toList_toArray, World.setCells, Nat.zero_add, Nat.reduceAdd] at hw1_; subst hw1_) | ((with_reducible refine gate_store (t := 24) (p := 1) rfl ?_); refine HW.store_box rfl rfl 24 _ _ rfl rfl rfl BK101.out rfl (by kernel_rfl) (by intro q hq; simp only [List.mem_cons, List.not_mem_nil, or_false] at hq; rcases hq with rfl | rfl | rfl | rfl | rfl <;> rfl) ?_; intro w1_ hw1_; simp only [List.toList_toArray, World.setCells, Nat.zero_add, Nat.reduceAdd] at hw1_; subst hw1_) | ((with_reducible refine gate_dst (N := 1) rfl ?_); (try (refine gate_guard (by rfl) ?_; dsimp only)); refine box_event ?hg (N := 1) ?hd (cs := #[.bool false, .int .i64 a0_1, .bool true, .int .i64 a0_3, .slice A0_4 l0_4.length c0_4]) (t := 24) ?hr ?_; (case hd => rfl); (case hg => rfl); (case hr => first | (go_simp; done) | (go_simp; rfl)); intro gb101 hg w34 hbox hb; have n0_ := Aside0.mk (below_step (by repeat (first | (with_reducible first | exact HB.out | apply below_alloc | apply pw_below_drewN | apply below_drew1) | exact HB.out)) hb); have n1_ := Aside0.mk (hbox); have n2_ := Aside0.mk ((by rw [hg]; exact (below_size (by repeat (first | (with_reducible first | exact HB.out | apply below_alloc | apply pw_below_drewN | apply below_drew1) | exact HB.out))) : w.heap.size ≤ gb101)); have n3_ := Aside0.mk ((by rw [hg]; exact (below_size (by repeat (first | (with_reducible first | exact HB.out | apply below_alloc | apply pw_below_drewN | apply below_drew1) | exact HB.out))) : w.heap.size ≤ gb101)); clear HB; have HB := n0_; have BK101 := n1_; have GW101 := n2_; have GE101 := n3_; clear n0_ n1_ n2_ n3_; clear hb hbox hg; have hcz35_0 : w34.cell? ⟨gb101, 0, none⟩ = some (.bool false) := (blk_cell BK101.out 0).trans rfl; have hcz35_1 : w34.cell? ⟨gb101, 1, none⟩ = some (.int .i64 a0_1) := (blk_cell BK101.out 1).trans rfl; have hcz35_2 : w34.cell? ⟨gb101, 2, none⟩ = some (.bool true) := (blk_cell BK101.out 2).trans rfl; have hcz35_3 : w34.cell? ⟨gb101, 3, none⟩ = some (.int .i64 a0_3) := (blk_cell BK101.out 3).trans rfl; have hcz35_4 : w34.cell? ⟨gb101, 4, none⟩ = some (.slice A0_4 l0_4.length c0_4) := (blk_cell BK101.out 4).trans rfl; have hfz35_0 := blk_frozen BK101.out 0; have hfz35_1 := blk_frozen BK101.out 1; have hfz35_2 := blk_frozen BK101.out 2; have hfz35_3 := blk_frozen BK101.out 3; have hfz35_4 := blk_frozen BK101.out 4))
          go_ret
          exact ⟨by first | rfl | (simp [errW_none, errW_some] <;> rfl) | (simp [*, errW_none, errW_some] <;> rfl), by repeat (first | (with_reducible first | exact HB.out | apply below_alloc | apply pw_below_drewN | apply below_drew1 | refine below_set ?_ GE101.out) | exact HB.out)⟩
      · rw [if_neg c27] at H
        have c27b0 : ((a0_1 / 2048) == 0) = false := beq_eq_false_iff_ne.mpr c27
        have c27b1 : ((a0_1 / 2048) != 0) = true := bne_iff_ne.mpr c27
        obtain rfl := Option.some.inj H
        go_enter Try.func12, Try.ntmps12
        go_wp2_with (first | ((with_reducible refine gate_store (t := 24) (p := 1) rfl ?_); refine HW.store_box rfl rfl 24 _ _ rfl rfl rfl BK101.out rfl (by kernel_rfl) (by intro q hq; simp only [List.mem_cons, List.not_mem_nil, or_false] at hq; rcases hq with rfl | rfl | rfl | rfl | rfl <;> rfl) ?_; intro w1_ hw1_; simp only [List.toList_toArray, World.setCells, Nat.zero_add, Nat.reduceAdd] at hw1_; subst hw1_) | ((with_reducible refine gate_store (t := 24) (p := 1) rfl ?_); refine HW.store_box rfl rfl 24 _ _ rfl rfl rfl BK101.out rfl (by kernel_rfl) (by intro q hq; simp only [List.mem_cons, List.not_mem_nil, or_false] at hq; rcases hq with rfl | rfl | rfl | rfl | rfl <;> rfl) ?_; intro w1_ hw1_; simp only [List.toList_toArray, World.setCells, Nat.zero_add, Nat.reduceAdd] at hw1_; subst hw1_) | ((with_reducible refine gate_store (t := 24) (p := 1) rfl ?_); refine HW.store_box rfl rfl 24 _ _ rfl rfl rfl BK101.out rfl (by kernel_rfl) (by intro q hq; simp only [List.mem_cons, List.not_mem_nil, or_false] at hq; rcases hq with rfl | rfl | rfl | rfl | rfl <;> rfl) ?_; intro w1_ hw1_; simp only [List.toList_toArray, World.setCells, Nat.zero_add, Nat.reduceAdd] at hw1_; subst hw1_) | ((with_reducible refine gate_store (t := 24) (p := 1) rfl ?_); refine HW.store_box rfl rfl 24 _ _ rfl rfl rfl BK101.out rfl (by kernel_rfl) (by intro q hq; simp only [List.mem_cons, List.not_mem_nil, or_false] at hq; rcases hq with rfl | rfl | rfl | rfl | rfl <;> rfl) ?_; intro w1_ hw1_; simp only [List.toList_toArray, World.setCells, Nat.zero_add, Nat.reduceAdd] at hw1_; subst hw1_) | ((with_reducible refine gate_dst (N := 1) rfl ?_); (try (refine gate_guard (by rfl) ?_; dsimp only)); refine box_event ?hg (N := 1) ?hd (cs := #[.bool false, .int .i64 a0_1, .bool true, .int .i64 a0_3, .slice A0_4 l0_4.length c0_4]) (t := 24) ?hr ?_; (case hd => rfl); (case hg => rfl); (case hr => first | (go_simp; done) | (go_simp; rfl)); intro gb101 hg w36 hbox hb; have n0_ := Aside0.mk (below_step (by repeat (first | (with_reducible first | exact HB.out | apply below_alloc | apply pw_below_drewN | apply below_drew1) | exact HB.out)) hb); have n1_ := Aside0.mk (hbox); have n2_ := Aside0.mk ((by rw [hg]; exact (below_size (by repeat (first | (with_reducible first | exact HB.out | apply below_alloc | apply pw_below_drewN | apply below_drew1) | exact HB.out))) : w.heap.size ≤ gb101)); have n3_ := Aside0.mk ((by rw [hg]; exact (below_size (by repeat (first | (with_reducible first | exact HB.out | apply below_alloc | apply pw_below_drewN | apply below_drew1) | exact HB.out))) : w.heap.size ≤ gb101)); clear HB; have HB := n0_; have BK101 := n1_; have GW101 := n2_; have GE101 := n3_; clear n0_ n1_ n2_ n3_; clear hb hbox hg; have hcz37_0 : w36.cell? ⟨gb101, 0, none⟩ = some (.bool false) := (blk_cell BK101.out 0).trans rfl; have hcz37_1 : w36.cell? ⟨gb101, 1, none⟩ = some (.int .i64 a0_1) := (blk_cell BK101.out 1).trans rfl; have hcz37_2 : w36.cell? ⟨gb101, 2, none⟩ = some (.bool true) := (blk_cell BK101.out 2).trans rfl; have hcz37_3 : w36.cell? ⟨gb101, 3, none⟩ = some (.int .i64 a0_3) := (blk_cell BK101.out 3).trans rfl; have hcz37_4 : w36.cell? ⟨gb101, 4, none⟩ = some (.slice A0_4 l0_4.length c0_4) := (blk_cell BK101.out 4).trans rfl; have hfz37_0 := blk_frozen BK101.out 0; have hfz37_1 := blk_frozen BK101.out 1; have hfz37_2 := blk_frozen BK101.out 2; have hfz37_3 := blk_frozen BK101.out 3; have hfz37_4 := blk_frozen BK101.out 4))
        go_ret
        exact ⟨by first | rfl | (simp [errW_none, errW_some] <;> rfl) | (simp [*, errW_none, errW_some] <;> rfl), by repeat (first | (with_reducible first | exact HB.out | apply below_alloc | apply pw_below_drewN | apply below_drew1 | refine below_set ?_ GE101.out) | exact HB.out)⟩
    · replace c26 := Bool.eq_false_iff.mpr c26
      subst c26
      have H1 : (if (a0_1 / 2048) = 0 then (if a0_3 ≥ 0 then (if a0_3 ≤ 8 then (some ((l0_4.length : Int) == a0_3)) else (some false)) else (some false)) else (some false)) = some r := by rw [if_neg (show ¬ (false = true) by decide)] at H; exact H
      clear H
      have H := H1
      clear H1
      by_cases c38 : (a0_1 / 2048) = 0
      · rw [if_pos c38] at H
        have c38b0 : ((a0_1 / 2048) == 0) = true := beq_iff_eq.mpr c38
        have c38b1 : ((a0_1 / 2048) != 0) = false := bne_eq_false_iff_eq.mpr c38
        clear c38
        by_cases c39 : a0_3 ≥ 0
        · rw [if_pos c39] at H
          have c39b0 : decide (0 ≤ a0_3) = true := decide_eq_true c39
          clear c39
          by_cases c40 : a0_3 ≤ 8
          · rw [if_pos c40] at H
            have c40b0 : decide (a0_3 ≤ 8) = true := decide_eq_true c40
            clear c40
            obtain rfl := Option.some.inj H
            go_enter Try.func12, Try.ntmps12
            go_wp2_with (first | ((with_reducible refine gate_store (t := 24) (p := 1) rfl ?_); refine HW.store_box rfl rfl 24 _ _ rfl rfl rfl BK101.out rfl (by kernel_rfl) (by intro q hq; simp only [List.mem_cons, List.not_mem_nil, or_false] at hq; rcases hq with rfl | rfl | rfl | rfl | rfl <;> rfl) ?_; intro w1_ hw1_; simp only [List.toList_toArray, World.setCells, Nat.zero_add, Nat.reduceAdd] at hw1_; subst hw1_) | ((with_reducible refine gate_store (t := 24) (p := 1) rfl ?_); refine HW.store_box rfl rfl 24 _ _ rfl rfl rfl BK101.out rfl (by kernel_rfl) (by intro q hq; simp only [List.mem_cons, List.not_mem_nil, or_false] at hq; rcases hq with rfl | rfl | rfl | rfl | rfl <;> rfl) ?_; intro w1_ hw1_; simp only [List.toList_toArray, World.setCells, Nat.zero_add, Nat.reduceAdd] at hw1_; subst hw1_) | ((with_reducible refine gate_store (t := 24) (p := 1) rfl ?_); refine HW.store_box rfl rfl 24 _ _ rfl rfl rfl BK101.out rfl (by kernel_rfl) (by intro q hq; simp only [List.mem_cons, List.not_mem_nil, or_false] at hq; rcases hq with rfl | rfl | rfl | rfl | rfl <;> rfl) ?_; intro w1_ hw1_; simp only [List.toList_toArray, World.setCells, Nat.zero_add, Nat.reduceAdd] at hw1_; subst hw1_) | ((with_reducible refine gate_store (t := 24) (p := 1) rfl ?_); refine HW.store_box rfl rfl 24 _ _ rfl rfl rfl BK101.out rfl (by kernel_rfl) (by intro q hq; simp only [List.mem_cons, List.not_mem_nil, or_false] at hq; rcases hq with rfl | rfl | rfl | rfl | rfl <;> rfl) ?_; intro w1_ hw1_; simp only [List.toList_toArray, World.setCells, Nat.zero_add, Nat.reduceAdd] at hw1_; subst hw1_) | ((with_reducible refine gate_dst (N := 1) rfl ?_); (try (refine gate_guard (by rfl) ?_; dsimp only)); refine box_event ?hg (N := 1) ?hd (cs := #[.bool false, .int .i64 a0_1, .bool false, .int .i64 a0_3, .slice A0_4 l0_4.length c0_4]) (t := 24) ?hr ?_; (case hd => rfl); (case hg => rfl); (case hr => first | (go_simp; done) | (go_simp; rfl)); intro gb101 hg w41 hbox hb; have n0_ := Aside0.mk (below_step (by repeat (first | (with_reducible first | exact HB.out | apply below_alloc | apply pw_below_drewN | apply below_drew1) | exact HB.out)) hb); have n1_ := Aside0.mk (hbox); have n2_ := Aside0.mk ((by rw [hg]; exact (below_size (by repeat (first | (with_reducible first | exact HB.out | apply below_alloc | apply pw_below_drewN | apply below_drew1) | exact HB.out))) : w.heap.size ≤ gb101)); have n3_ := Aside0.mk ((by rw [hg]; exact (below_size (by repeat (first | (with_reducible first | exact HB.out | apply below_alloc | apply pw_below_drewN | apply below_drew1) | exact HB.out))) : w.heap.size ≤ gb101)); clear HB; have HB := n0_; have BK101 := n1_; have GW101 := n2_; have GE101 := n3_; clear n0_ n1_ n2_ n3_; clear hb hbox hg; have hcz42_0 : w41.cell? ⟨gb101, 0, none⟩ = some (.bool false) := (blk_cell BK101.out 0).trans rfl; have hcz42_1 : w41.cell? ⟨gb101, 1, none⟩ = some (.int .i64 a0_1) := (blk_cell BK101.out 1).trans rfl; have hcz42_2 : w41.cell? ⟨gb101, 2, none⟩ = some (.bool false) := (blk_cell BK101.out 2).trans rfl; have hcz42_3 : w41.cell? ⟨gb101, 3, none⟩ = some (.int .i64 a0_3) := (blk_cell BK101.out 3).trans rfl; have hcz42_4 : w41.cell? ⟨gb101, 4, none⟩ = some (.slice A0_4 l0_4.length c0_4) := (blk_cell BK101.out 4).trans rfl; have hfz42_0 := blk_frozen BK101.out 0; have hfz42_1 := blk_frozen BK101.out 1; have hfz42_2 := blk_frozen BK101.out 2; have hfz42_3 := blk_frozen BK101.out 3; have hfz42_4 := blk_frozen BK101.out 4))
            go_ret
            exact ⟨by first | rfl | (simp [errW_none, errW_some] <;> rfl) | (simp [*, errW_none, errW_some] <;> rfl), by repeat (first | (with_reducible first | exact HB.out | apply below_alloc | apply pw_below_drewN | apply below_drew1 | refine below_set ?_ GE101.out) | exact HB.out)⟩
          · rw [if_neg c40] at H
            have c40b0 : decide (a0_3 ≤ 8) = false := decide_eq_false c40
            clear c40
            obtain rfl := Option.some.inj H
            go_enter Try.func12, Try.ntmps12
            go_wp2_with (first | ((with_reducible refine gate_store (t := 24) (p := 1) rfl ?_); refine HW.store_box rfl rfl 24 _ _ rfl rfl rfl BK101.out rfl (by kernel_rfl) (by intro q hq; simp only [List.mem_cons, List.not_mem_nil, or_false] at hq; rcases hq with rfl | rfl | rfl | rfl | rfl <;> rfl) ?_; intro w1_ hw1_; simp only [List.toList_toArray, World.setCells, Nat.zero_add, Nat.reduceAdd] at hw1_; subst hw1_) | ((with_reducible refine gate_store (t := 24) (p := 1) rfl ?_); refine HW.store_box rfl rfl 24 _ _ rfl rfl rfl BK101.out rfl (by kernel_rfl) (by intro q hq; simp only [List.mem_cons, List.not_mem_nil, or_false] at hq; rcases hq with rfl | rfl | rfl | rfl | rfl <;> rfl) ?_; intro w1_ hw1_; simp only [List.toList_toArray, World.setCells, Nat.zero_add, Nat.reduceAdd] at hw1_; subst hw1_) | ((with_reducible refine gate_store (t := 24) (p := 1) rfl ?_); refine HW.store_box rfl rfl 24 _ _ rfl rfl rfl BK101.out rfl (by kernel_rfl) (by intro q hq; simp only [List.mem_cons, List.not_mem_nil, or_false] at hq; rcases hq with rfl | rfl | rfl | rfl | rfl <;> rfl) ?_; intro w1_ hw1_; simp only [List.toList_toArray, World.setCells, Nat.zero_add, Nat.reduceAdd] at hw1_; subst hw1_) | ((with_reducible refine gate_store (t := 24) (p := 1) rfl ?_); refine HW.store_box rfl rfl 24 _ _ rfl rfl rfl BK101.out rfl (by kernel_rfl) (by intro q hq; simp only [List.mem_cons, List.not_mem_nil, or_false] at hq; rcases hq with rfl | rfl | rfl | rfl | rfl <;> rfl) ?_; intro w1_ hw1_; simp only [List.toList_toArray, World.setCells, Nat.zero_add, Nat.reduceAdd] at hw1_; subst hw1_) | ((with_reducible refine gate_dst (N := 1) rfl ?_); (try (refine gate_guard (by rfl) ?_; dsimp only)); refine box_event ?hg (N := 1) ?hd (cs := #[.bool false, .int .i64 a0_1, .bool false, .int .i64 a0_3, .slice A0_4 l0_4.length c0_4]) (t := 24) ?hr ?_; (case hd => rfl); (case hg => rfl); (case hr => first | (go_simp; done) | (go_simp; rfl)); intro gb101 hg w43 hbox hb; have n0_ := Aside0.mk (below_step (by repeat (first | (with_reducible first | exact HB.out | apply below_alloc | apply pw_below_drewN | apply below_drew1) | exact HB.out)) hb); have n1_ := Aside0.mk (hbox); have n2_ := Aside0.mk ((by rw [hg]; exact (below_size (by repeat (first | (with_reducible first | exact HB.out | apply below_alloc | apply pw_below_drewN | apply below_drew1) | exact HB.out))) : w.heap.size ≤ gb101)); have n3_ := Aside0.mk ((by rw [hg]; exact (below_size (by repeat (first | (with_reducible first | exact HB.out | apply below_alloc | apply pw_below_drewN | apply below_drew1) | exact HB.out))) : w.heap.size ≤ gb101)); clear HB; have HB := n0_; have BK101 := n1_; have GW101 := n2_; have GE101 := n3_; clear n0_ n1_ n2_ n3_; clear hb hbox hg; have hcz44_0 : w43.cell? ⟨gb101, 0, none⟩ = some (.bool false) := (blk_cell BK101.out 0).trans rfl; have hcz44_1 : w43.cell? ⟨gb101, 1, none⟩ = some (.int .i64 a0_1) := (blk_cell BK101.out 1).trans rfl; have hcz44_2 : w43.cell? ⟨gb101, 2, none⟩ = some (.bool false) := (blk_cell BK101.out 2).trans rfl; have hcz44_3 : w43.cell? ⟨gb101, 3, none⟩ = some (.int .i64 a0_3) := (blk_cell BK101.out 3).trans rfl; have hcz44_4 : w43.cell? ⟨gb101, 4, none⟩ = some (.slice A0_4 l0_4.length c0_4) := (blk_cell BK101.out 4).trans rfl; have hfz44_0 := blk_frozen BK101.out 0; have hfz44_1 := blk_frozen BK101.out 1; have hfz44_2 := blk_frozen BK101.out 2; have hfz44_3 := blk_frozen BK101.out 3; have hfz44_4 := blk_frozen BK101.out 4))
            go_ret
            exact ⟨by first | rfl | (simp [errW_none, errW_some] <;> rfl) | (simp [*, errW_none, errW_some] <;> rfl), by repeat (first | (with_reducible first | exact HB.out | apply below_alloc | apply pw_below_drewN | apply below_drew1 | refine below_set ?_ GE101.out) | exact HB.out)⟩
        · rw [if_neg c39] at H
          have c39b0 : decide (0 ≤ a0_3) = false := decide_eq_false c39
          clear c39
          obtain rfl := Option.some.inj H
          go_enter Try.func12, Try.ntmps12
          go_wp2_with (first | ((with_reducible refine gate_store (t := 24) (p := 1) rfl ?_); refine HW.store_box rfl rfl 24 _ _ rfl rfl rfl BK101.out rfl (by kernel_rfl) (by intro q hq; simp only [List.mem_cons, List.not_mem_nil, or_false] at hq; rcases hq with rfl | rfl | rfl | rfl | rfl <;> rfl) ?_; intro w1_ hw1_; simp only [List.toList_toArray, World.setCells, Nat.zero_add, Nat.reduceAdd] at hw1_; subst hw1_) | ((with_reducible refine gate_store (t := 24) (p := 1) rfl ?_); refine HW.store_box rfl rfl 24 _ _ rfl rfl rfl BK101.out rfl (by kernel_rfl) (by intro q hq; simp only [List.mem_cons, List.not_mem_nil, or_false] at hq; rcases hq with rfl | rfl | rfl | rfl | rfl <;> rfl) ?_; intro w1_ hw1_; simp only [List.toList_toArray, World.setCells, Nat.zero_add, Nat.reduceAdd] at hw1_; subst hw1_) | ((with_reducible refine gate_store (t := 24) (p := 1) rfl ?_); refine HW.store_box rfl rfl 24 _ _ rfl rfl rfl BK101.out rfl (by kernel_rfl) (by intro q hq; simp only [List.mem_cons, List.not_mem_nil, or_false] at hq; rcases hq with rfl | rfl | rfl | rfl | rfl <;> rfl) ?_; intro w1_ hw1_; simp only [List.toList_toArray, World.setCells, Nat.zero_add, Nat.reduceAdd] at hw1_; subst hw1_) | ((with_reducible refine gate_store (t := 24) (p := 1) rfl ?_); refine HW.store_box rfl rfl 24 _ _ rfl rfl rfl BK101.out rfl (by kernel_rfl) (by intro q hq; simp only [List.mem_cons, List.not_mem_nil, or_false] at hq; rcases hq with rfl | rfl | rfl | rfl | rfl <;> rfl) ?_; intro w1_ hw1_; simp only [List.toList_toArray, World.setCells, Nat.zero_add, Nat.reduceAdd] at hw1_; subst hw1_) | ((with_reducible refine gate_dst (N := 1) rfl ?_); (try (refine gate_guard (by rfl) ?_; dsimp only)); refine box_event ?hg (N := 1) ?hd (cs := #[.bool false, .int .i64 a0_1, .bool false, .int .i64 a0_3, .slice A0_4 l0_4.length c0_4]) (t := 24) ?hr ?_; (case hd => rfl); (case hg => rfl); (case hr => first | (go_simp; done) | (go_simp; rfl)); intro gb101 hg w45 hbox hb; have n0_ := Aside0.mk (below_step (by repeat (first | (with_reducible first | exact HB.out | apply below_alloc | apply pw_below_drewN | apply below_drew1) | exact HB.out)) hb); have n1_ := Aside0.mk (hbox); have n2_ := Aside0.mk ((by rw [hg]; exact (below_size (by repeat (first | (with_reducible first | exact HB.out | apply below_alloc | apply pw_below_drewN | apply below_drew1) | exact HB.out))) : w.heap.size ≤ gb101)); have n3_ := Aside0.mk ((by rw [hg]; exact (below_size (by repeat (first | (with_reducible first | exact HB.out | apply below_alloc | apply pw_below_drewN | apply below_drew1) | exact HB.out))) : w.heap.size ≤ gb101)); clear HB; have HB := n0_; have BK101 := n1_; have GW101 := n2_; have GE101 := n3_; clear n0_ n1_ n2_ n3_; clear hb hbox hg; have hcz46_0 : w45.cell? ⟨gb101, 0, none⟩ = some (.bool false) := (blk_cell BK101.out 0).trans rfl; have hcz46_1 : w45.cell? ⟨gb101, 1, none⟩ = some (.int .i64 a0_1) := (blk_cell BK101.out 1).trans rfl; have hcz46_2 : w45.cell? ⟨gb101, 2, none⟩ = some (.bool false) := (blk_cell BK101.out 2).trans rfl; have hcz46_3 : w45.cell? ⟨gb101, 3, none⟩ = some (.int .i64 a0_3) := (blk_cell BK101.out 3).trans rfl; have hcz46_4 : w45.cell? ⟨gb101, 4, none⟩ = some (.slice A0_4 l0_4.length c0_4) := (blk_cell BK101.out 4).trans rfl; have hfz46_0 := blk_frozen BK101.out 0; have hfz46_1 := blk_frozen BK101.out 1; have hfz46_2 := blk_frozen BK101.out 2; have hfz46_3 := blk_frozen BK101.out 3; have hfz46_4 := blk_frozen BK101.out 4))
          go_ret
          exact ⟨by first | rfl | (simp [errW_none, errW_some] <;> rfl) | (simp [*, errW_none, errW_some] <;> rfl), by repeat (first | (with_reducible first | exact HB.out | apply below_alloc | apply pw_below_drewN | apply below_drew1 | refine below_set ?_ GE101.out) | exact HB.out)⟩
      · rw [if_neg c38] at H
        have c38b0 : ((a0_1 / 2048) == 0) = false := beq_eq_false_iff_ne.mpr c38
        have c38b1 : ((a0_1 / 2048) != 0) = true := bne_iff_ne.mpr c38
        obtain rfl := Option.some.inj H
        go_enter Try.func12, Try.ntmps12
        go_wp2_with (first | ((with_reducible refine gate_store (t := 24) (p := 1) rfl ?_); refine HW.store_box rfl rfl 24 _ _ rfl rfl rfl BK101.out rfl (by kernel_rfl) (by intro q hq; simp only [List.mem_cons, List.not_mem_nil, or_false] at hq; rcases hq with rfl | rfl | rfl | rfl | rfl <;> rfl) ?_; intro w1_ hw1_; simp only [List.toList_toArray, World.setCells, Nat.zero_add, Nat.reduceAdd] at hw1_; subst hw1_) | ((with_reducible refine gate_store (t := 24) (p := 1) rfl ?_); refine HW.store_box rfl rfl 24 _ _ rfl rfl rfl BK101.out rfl (by kernel_rfl) (by intro q hq; simp only [List.mem_cons, List.not_mem_nil, or_false] at hq; rcases hq with rfl | rfl | rfl | rfl | rfl <;> rfl) ?_; intro w1_ hw1_; simp only [List.toList_toArray, World.setCells, Nat.zero_add, Nat.reduceAdd] at hw1_; subst hw1_) | ((with_reducible refine gate_store (t := 24) (p := 1) rfl ?_); refine HW.store_box rfl rfl 24 _ _ rfl rfl rfl BK101.out rfl (by kernel_rfl) (by intro q hq; simp only [List.mem_cons, List.not_mem_nil, or_false] at hq; rcases hq with rfl | rfl | rfl | rfl | rfl <;> rfl) ?_; intro w1_ hw1_; simp only [List.toList_toArray, World.setCells, Nat.zero_add, Nat.reduceAdd] at hw1_; subst hw1_) | ((with_reducible refine gate_store (t := 24) (p := 1) rfl ?_); refine HW.store_box rfl rfl 24 _ _ rfl rfl rfl BK101.out rfl (by kernel_rfl) (by intro q hq; simp only [List.mem_cons, List.not_mem_nil, or_false] at hq; rcases hq with rfl | rfl | rfl | rfl | rfl <;> rfl) ?_; intro w1_ hw1_; simp only [List.toList_toArray, World.setCells, Nat.zero_add, Nat.reduceAdd] at hw1_; subst hw1_) | ((with_reducible refine gate_dst (N := 1) rfl ?_); (try (refine gate_guard (by rfl) ?_; dsimp only)); refine box_event ?hg (N := 1) ?hd (cs := #[.bool false, .int .i64 a0_1, .bool false, .int .i64 a0_3, .slice A0_4 l0_4.length c0_4]) (t := 24) ?hr ?_; (case hd => rfl); (case hg => rfl); (case hr => first | (go_simp; done) | (go_simp; rfl)); intro gb101 hg w47 hbox hb; have n0_ := Aside0.mk (below_step (by repeat (first | (with_reducible first | exact HB.out | apply below_alloc | apply pw_below_drewN | apply below_drew1) | exact HB.out)) hb); have n1_ := Aside0.mk (hbox); have n2_ := Aside0.mk ((by rw [hg]; exact (below_size (by repeat (first | (with_reducible first | exact HB.out | apply below_alloc | apply pw_below_drewN | apply below_drew1) | exact HB.out))) : w.heap.size ≤ gb101)); have n3_ := Aside0.mk ((by rw [hg]; exact (below_size (by repeat (first | (with_reducible first | exact HB.out | apply below_alloc | apply pw_below_drewN | apply below_drew1) | exact HB.out))) : w.heap.size ≤ gb101)); clear HB; have HB := n0_; have BK101 := n1_; have GW101 := n2_; have GE101 := n3_; clear n0_ n1_ n2_ n3_; clear hb hbox hg; have hcz48_0 : w47.cell? ⟨gb101, 0, none⟩ = some (.bool false) := (blk_cell BK101.out 0).trans rfl; have hcz48_1 : w47.cell? ⟨gb101, 1, none⟩ = some (.int .i64 a0_1) := (blk_cell BK101.out 1).trans rfl; have hcz48_2 : w47.cell? ⟨gb101, 2, none⟩ = some (.bool false) := (blk_cell BK101.out 2).trans rfl; have hcz48_3 : w47.cell? ⟨gb101, 3, none⟩ = some (.int .i64 a0_3) := (blk_cell BK101.out 3).trans rfl; have hcz48_4 : w47.cell? ⟨gb101, 4, none⟩ = some (.slice A0_4 l0_4.length c0_4) := (blk_cell BK101.out 4).trans rfl; have hfz48_0 := blk_frozen BK101.out 0; have hfz48_1 := blk_frozen BK101.out 1; have hfz48_2 := blk_frozen BK101.out 2; have hfz48_3 := blk_frozen BK101.out 3; have hfz48_4 := blk_frozen BK101.out 4))
        go_ret
        exact ⟨by first | rfl | (simp [errW_none, errW_some] <;> rfl) | (simp [*, errW_none, errW_some] <;> rfl), by repeat (first | (with_reducible first | exact HB.out | apply below_alloc | apply pw_below_drewN | apply below_drew1 | refine below_set ?_ GE101.out) | exact HB.out)⟩

/-! ### bytes_Equal: function 27 -/
def bytes_Equal.f (l0 : List Int) (l1 : List Int) : Option (Bool) := some ((strOfNums l0).toList == (strOfNums l1).toList)
set_option maxHeartbeats 8000000 in
set_option maxRecDepth 100000 in
theorem bytes_Equal.calls (A0 : Option Addr) (c0 : Nat) (l0 : List Int) (A1 : Option Addr) (c1 : Nat) (l1 : List Int) (r : Bool) (w : World) (hr0 : Kd.C (Kd.int .u8) w A0 l0.length l0) (hc0 : l0.length ≤ c0) (hr1 : Kd.C (Kd.int .u8) w A1 l1.length l1) (hc1 : l1.length ≤ c1) (h : bytes_Equal.f l0 l1 = some r) :
    Calls Try.prog 27 #[.slice A0 l0.length c0, .slice A1 l1.length c1] w fun e w' => e = .returned (.bool r) ∧ Drawn0 w w' := by
  have HR0 := Aside0.mk hr0
  have HC0 := Aside0.mk hc0
  clear hr0 hc0
  have HR1 := Aside0.mk hr1
  have HC1 := Aside0.mk hc1
  clear hr1 hc1
  have H : (some ((strOfNums l0).toList == (strOfNums l1).toList)) = some r := h
  clear h
  obtain rfl := Option.some.inj H
  have hcv3 := Kd.C_string (P := Try.prog) (A := A0) (c := c0) Try.underlying22 Try.underlying5 Try.underlying9 HR0.out
  have hcv4 := Kd.C_string (P := Try.prog) (A := A1) (c := c1) Try.underlying22 Try.underlying5 Try.underlying9 HR1.out
  go_enter Try.func27, Try.ntmps27
  go_wp2
  go_ret
  exact ⟨by first | rfl | (simp; done) | (simp [*]; done), by repeat (first | exact Drawn0.refl _ | apply Drawn0.step)⟩

/-! ### frame_Same: function 14 -/
def frame_Same.f (a0_0 : Bool) (a0_1 : Int) (a0_2 : Bool) (a0_3 : Int) (l0_4 : List Int) (a1_0 : Bool) (a1_1 : Int) (a1_2 : Bool) (a1_3 : Int) (l1_4 : List Int) : Option (Bool) := if (a0_0 == a1_0) = true then (if a0_1 = a1_1 then (if (a0_2 == a1_2) = true then (if a0_3 = a1_3 then ((bytes_Equal.f l0_4 l1_4).bind fun t104 => (some t104)) else (some false)) else (some false)) else (some false)) else (some false)
set_option maxHeartbeats 8000000 in
set_option maxRecDepth 100000 in
theorem frame_Same.calls (a0_0 : Bool) (a0_1 : Int) (a0_2 : Bool) (a0_3 : Int) (A0_4 : Option Addr) (c0_4 : Nat) (l0_4 : List Int) (a1_0 : Bool) (a1_1 : Int) (a1_2 : Bool) (a1_3 : Int) (A1_4 : Option Addr) (c1_4 : Nat) (l1_4 : List Int) (r : Bool) (w : World) (hr0_4 : Kd.C (Kd.int .u8) w A0_4 l0_4.length l0_4) (hc0_4 : l0_4.length ≤ c0_4) (hr1_4 : Kd.C (Kd.int .u8) w A1_4 l1_4.length l1_4) (hc1_4 : l1_4.length ≤ c1_4) (h : frame_Same.f a0_0 a0_1 a0_2 a0_3 l0_4 a1_0 a1_1 a1_2 a1_3 l1_4 = some r) :
    Calls Try.prog 14 #[.agg #[.bool a0_0, .int .i64 a0_1, .bool a0_2, .int .i64 a0_3, .slice A0_4 l0_4.length c0_4], .agg #[.bool a1_0, .int .i64 a1_1, .bool a1_2, .int .i64 a1_3, .slice A1_4 l1_4.length c1_4]] w fun e w' => e = .returned (.bool r) ∧ Below w.heap.size w w' := by
  have hu24 := Try.underlying24
  have HR0_4 := Aside0.mk hr0_4
  have HC0_4 := Aside0.mk hc0_4
  clear hr0_4 hc0_4
  have HR1_4 := Aside0.mk hr1_4
  have HC1_4 := Aside0.mk hc1_4
  clear hr1_4 hc1_4
  have HB := Aside0.mk (Below.refl w.heap.size w)
  have H : (if (a0_0 == a1_0) = true then (if a0_1 = a1_1 then (if (a0_2 == a1_2) = true then (if a0_3 = a1_3 then ((bytes_Equal.f l0_4 l1_4).bind fun t104 => (some t104)) else (some false)) else (some false)) else (some false)) else (some false)) = some r := h
  clear h
  by_cases c3 : (a0_0 == a1_0) = true
  · rw [if_pos c3] at H
    have c3b0 : (a0_0 == a1_0) = true := c3
    (try (have c3b1 : decide (a0_0 = a1_0) = true := by simpa using c3))
    (try (have c3b2 : (a0_0 == a1_0) = true := by simpa using c3))
    clear c3
    by_cases c4 : a0_1 = a1_1
    · rw [if_pos c4] at H
      have c4b0 : (a0_1 == a1_1) = true := beq_iff_eq.mpr c4
      have c4b1 : (a0_1 != a1_1) = false := bne_eq_false_iff_eq.mpr c4
      clear c4
      by_cases c5 : (a0_2 == a1_2) = true
      · rw [if_pos c5] at H
        have c5b0 : (a0_2 == a1_2) = true := c5
        (try (have c5b1 : decide (a0_2 = a1_2) = true := by simpa using c5))
        (try (have c5b2 : (a0_2 == a1_2) = true := by simpa using c5))
        clear c5
        by_cases c6 : a0_3 = a1_3
        · rw [if_pos c6] at H
          have c6b0 : (a0_3 == a1_3) = true := beq_iff_eq.mpr c6
          have c6b1 : (a0_3 != a1_3) = false := bne_eq_false_iff_eq.mpr c6
          clear c6
          replace H := Option.bind_eq_some_iff.mp H
          obtain ⟨t104, A70, H⟩ := H
          replace H : (some t104) = some r := H
          have A7 := Aside0.mk A70
          clear A70
          obtain rfl := Option.some.inj H
          go_enter Try.func14, Try.ntmps14
          go_wp2_with (first | ((with_reducible refine gate_store (t := 24) (p := 3) rfl ?_); refine HW.store_box rfl rfl 24 _ _ rfl rfl rfl BK103.out rfl (by kernel_rfl) (by intro q hq; simp only [List.mem_cons, List.not_mem_nil, or_false] at hq; rcases hq with rfl | rfl | rfl | rfl | rfl <;> rfl) ?_; intro w1_ hw1_; simp only [List.toList_toArray, World.setCells, Nat.zero_add, Nat.reduceAdd] at hw1_; subst hw1_) | ((with_reducible refine gate_store (t := 24) (p := 2) rfl ?_); refine HW.store_box rfl rfl 24 _ _ rfl rfl rfl BK102.out rfl (by kernel_rfl) (by intro q hq; simp only [List.mem_cons, List.not_mem_nil, or_false] at hq; rcases hq with rfl | rfl | rfl | rfl | rfl <;> rfl) ?_; intro w1_ hw1_; simp only [List.toList_toArray, World.setCells, Nat.zero_add, Nat.reduceAdd] at hw1_; subst hw1_) | ((with_reducible refine gate_dst (N := 2) rfl ?_); refine box_event ?hg (N := 2) ?hd (cs := #[.bool a0_0, .int .i64 a0_1, .bool a0_2, .int .i64 a0_3, .slice A0_4 l0_4.length c0_4]) (t := 24) ?hr ?_; (case hd => rfl); (case hg => rfl); (case hr => first | (go_simp; done) | (go_simp; rfl)); intro gb102 hg w8 hbox hb; have n0_ := Aside0.mk (below_step (by repeat (first | (with_reducible first | exact HB.out | apply below_alloc | apply pw_below_drewN | apply below_drew1) | exact HB.out)) hb); have n1_ := Aside0.mk (hbox); have n2_ := Aside0.mk ((by rw [hg]; exact (below_size (by repeat (first | (with_reducible first | exact HB.out | apply below_alloc | apply pw_below_drewN | apply below_drew1) | exact HB.out))) : w.heap.size ≤ gb102)); have n3_ := Aside0.mk ((by rw [hg]; exact (below_size (by repeat (first | (with_reducible first | exact HB.out | apply below_alloc | apply pw_below_drewN | apply below_drew1) | exact HB.out))) : w.heap.size ≤ gb102)); clear HB; have HB := n0_; have BK102 := n1_; have GW102 := n2_; have GE102 := n3_; clear n0_ n1_ n2_ n3_; clear hb hbox hg) | ((with_reducible refine gate_dst (N := 3) rfl ?_); refine box_event ?hg (N := 3) ?hd (cs := #[.bool a1_0, .int .i64 a1_1, .bool a1_2, .int .i64 a1_3, .slice A1_4 l1_4.length c1_4]) (t := 24) ?hr ?_; (case hd => rfl); (case hg => rfl); (case hr => first | (go_simp; done) | (go_simp; rfl)); intro gb103 hg w9 hbox hb; have n0_ := Aside0.mk (blk_below (g := gb102) (o := .cells #[.bool a0_0, .int .i64 a0_1, .bool a0_2, .int .i64 a0_3, .slice A0_4 l0_4.length c0_4] 24 (0, 0)) (by (with_reducible repeat (first | refine blk_drewN ?_ _ | refine blk_drew ?_ | refine blk_alloc ?_ _)); exact BK102.out) hb); have n1_ := Aside0.mk (below_step (by repeat (first | (with_reducible first | exact HB.out | apply below_alloc | apply pw_below_drewN | apply below_drew1 | refine below_set ?_ GE102.out) | exact HB.out)) hb); have n2_ := Aside0.mk (hbox); have n3_ := Aside0.mk ((by rw [hg]; exact (below_size (by repeat (first | (with_reducible first | exact HB.out | apply below_alloc | apply pw_below_drewN | apply below_drew1 | refine below_set ?_ GE102.out) | exact HB.out))) : w.heap.size ≤ gb103)); have n4_ := Aside0.mk ((by rw [hg]; exact (below_size (by repeat (first | (with_reducible first | exact HB.out | apply below_alloc | apply pw_below_drewN | apply below_drew1 | refine below_set ?_ GE102.out) | exact HB.out))) : w.heap.size ≤ gb103)); have n5_ := Aside0.mk ((by rw [hg]; exact Nat.ne_of_lt (blk_lt (g := gb102) (o := .cells #[.bool a0_0, .int .i64 a0_1, .bool a0_2, .int .i64 a0_3, .slice A0_4 l0_4.length c0_4] 24 (0, 0)) (by (with_reducible repeat (first | refine blk_drewN ?_ _ | refine blk_drew ?_ | refine blk_alloc ?_ _)); exact BK102.out)) : gb102 ≠ gb103)); have n6_ := Aside0.mk ((by rw [hg]; exact Nat.ne_of_gt (blk_lt (g := gb102) (o := .cells #[.bool a0_0, .int .i64 a0_1, .bool a0_2, .int .i64 a0_3, .slice A0_4 l0_4.length c0_4] 24 (0, 0)) (by (with_reducible repeat (first | refine blk_drewN ?_ _ | refine blk_drew ?_ | refine blk_alloc ?_ _)); exact BK102.out)) : gb103 ≠ gb102)); clear BK102; clear HB; have BK102 := n0_; have HB := n1_; have BK103 := n2_; have GW103 := n3_; have GE103 := n4_; have NB102_103 := n5_; have NB103_102 := n6_; clear n0_ n1_ n2_ n3_ n4_ n5_ n6_; clear hb hbox hg; have hnb10 := NB102_103.out; have hnc10 := NB103_102.out; have hcz11_0 : w9.cell? ⟨gb102, 0, none⟩ = some (.bool a0_0) := (blk_cell BK102.out 0).trans rfl; have hcz11_1 : w9.cell? ⟨gb102, 1, none⟩ = some (.int .i64 a0_1) := (blk_cell BK102.out 1).trans rfl; have hcz11_2 : w9.cell? ⟨gb102, 2, none⟩ = some (.bool a0_2) := (blk_cell BK102.out 2).trans rfl; have hcz11_3 : w9.cell? ⟨gb102, 3, none⟩ = some (.int .i64 a0_3) := (blk_cell BK102.out 3).trans rfl; have hcz11_4 : w9.cell? ⟨gb102, 4, none⟩ = some (.slice A0_4 l0_4.length c0_4) := (blk_cell BK102.out 4).trans rfl; have hfz11_0 := blk_frozen BK102.out 0; have hfz11_1 := blk_frozen BK102.out 1; have hfz11_2 := blk_frozen BK102.out 2; have hfz11_3 := blk_frozen BK102.out 3; have hfz11_4 := blk_frozen BK102.out 4; have hcz12_0 : w9.cell? ⟨gb103, 0, none⟩ = some (.bool a1_0) := (blk_cell BK103.out 0).trans rfl; have hcz12_1 : w9.cell? ⟨gb103, 1, none⟩ = some (.int .i64 a1_1) := (blk_cell BK103.out 1).trans rfl; have hcz12_2 : w9.cell? ⟨gb103, 2, none⟩ = some (.bool a1_2) := (blk_cell BK103.out 2).trans rfl; have hcz12_3 : w9.cell? ⟨gb103, 3, none⟩ = some (.int .i64 a1_3) := (blk_cell BK103.out 3).trans rfl; have hcz12_4 : w9.cell? ⟨gb103, 4, none⟩ = some (.slice A1_4 l1_4.length c1_4) := (blk_cell BK103.out 4).trans rfl; have hfz12_0 := blk_frozen BK103.out 0; have hfz12_1 := blk_frozen BK103.out 1; have hfz12_2 := blk_frozen BK103.out 2; have hfz12_3 := blk_frozen BK103.out 3; have hfz12_4 := blk_frozen BK103.out 4) | (go_at_call 27; (with_reducible refine (bytes_Equal.calls _ _ l0_4 _ _ l1_4 t104 _ ?side1 ?side2 ?side3 ?side4 A7.out).mono ?_); (case side1 => repeat (first | exact (Kd.C_below HR0_4.out HB.out) | (with_reducible refine Kd.C_alloc ?_ _) | (with_reducible refine Kd.C_drewN ?_ _) | (with_reducible refine Kd.C_drew ?_))); (case side2 => exact HC0_4.out); (case side3 => repeat (first | exact (Kd.C_below HR1_4.out HB.out) | (with_reducible refine Kd.C_alloc ?_ _) | (with_reducible refine Kd.C_drewN ?_ _) | (with_reducible refine Kd.C_drew ?_))); (case side4 => exact HC1_4.out); rintro e w' ⟨rfl, ⟨nd, rfl⟩⟩))
          go_ret
          exact ⟨by first | rfl | (simp [errW_none, errW_some] <;> rfl) | (simp [*, errW_none, errW_some] <;> rfl), by repeat (first | (with_reducible first | exact HB.out | apply below_alloc | apply pw_below_drewN | apply below_drew1 | refine below_set ?_ GE102.out | refine below_set ?_ GE103.out) | exact HB.out)⟩
        · rw [if_neg c6] at H
          have c6b0 : (a0_3 == a1_3) = false := beq_eq_false_iff_ne.mpr c6
          have c6b1 : (a0_3 != a1_3) = true := bne_iff_ne.mpr c6
          obtain rfl := Option.some.inj H
          go_enter Try.func14, Try.ntmps14
          go_wp2_with (first | ((with_reducible refine gate_store (t := 24) (p := 3) rfl ?_); refine HW.store_box rfl rfl 24 _ _ rfl rfl rfl BK103.out rfl (by kernel_rfl) (by intro q hq; simp only [List.mem_cons, List.not_mem_nil, or_false] at hq; rcases hq with rfl | rfl | rfl | rfl | rfl <;> rfl) ?_; intro w1_ hw1_; simp only [List.toList_toArray, World.setCells, Nat.zero_add, Nat.reduceAdd] at hw1_; subst hw1_) | ((with_reducible refine gate_store (t := 24) (p := 2) rfl ?_); refine HW.store_box rfl rfl 24 _ _ rfl rfl rfl BK102.out rfl (by kernel_rfl) (by intro q hq; simp only [List.mem_cons, List.not_mem_nil, or_false] at hq; rcases hq with rfl | rfl | rfl | rfl | rfl <;> rfl) ?_; intro w1_ hw1_; simp only [List.toList_toArray, World.setCells, Nat.zero_add, Nat.reduceAdd] at hw1_; subst hw1_) | ((with_reducible refine gate_dst (N := 2) rfl ?_); refine box_event ?hg (N := 2) ?hd (cs := #[.bool a0_0, .int .i64 a0_1, .bool a0_2, .int .i64 a0_3, .slice A0_4 l0_4.length c0_4]) (t := 24) ?hr ?_; (case hd => rfl); (case hg => rfl); (case hr => first | (go_simp; done) | (go_simp; rfl)); intro gb102 hg w13 hbox hb; have n0_ := Aside0.mk (below_step (by repeat (first | (with_reducible first | exact HB.out | apply below_alloc | apply pw_below_drewN | apply below_drew1) | exact HB.out)) hb); have n1_ := Aside0.mk (hbox); have n2_ := Aside0.mk ((by rw [hg]; exact (below_size (by repeat (first | (with_reducible first | exact HB.out | apply below_alloc | apply pw_below_drewN | apply below_drew1) | exact HB.out))) : w.heap.size ≤ gb102)); have n3_ := Aside0.mk ((by rw [hg]; exact (below_size (by repeat (first | (with_reducible first | exact HB.out | apply below_alloc | apply pw_below_drewN | apply below_drew1) | exact HB.out))) : w.heap.size ≤ gb102)); clear HB; have HB := n0_; have BK102 := n1_; have GW102 := n2_; have GE102 := n3_; clear n0_ n1_ n2_ n3_; clear hb hbox hg) | ((with_reducible refine gate_dst (N := 3) rfl ?_); refine box_event ?hg (N := 3) ?hd (cs := #[.bool a1_0, .int .i64 a1_1, .bool a1_2, .int .i64 a1_3, .slice A1_4 l1_4.length c1_4]) (t := 24) ?hr ?_; (case hd => rfl); (case hg => rfl); (case hr => first | (go_simp; done) | (go_simp; rfl)); intro gb103 hg w14 hbox hb; have n0_ := Aside0.mk (blk_below (g := gb102) (o := .cells #[.bool a0_0, .int .i64 a0_1, .bool a0_2, .int .i64 a0_3, .slice A0_4 l0_4.length c0_4] 24 (0, 0)) (by (with_reducible repeat (first | refine blk_drewN ?_ _ | refine blk_drew ?_ | refine blk_alloc ?_ _)); exact BK102.out) hb); have n1_ := Aside0.mk (below_step (by repeat (first | (with_reducible first | exact HB.out | apply below_alloc | apply pw_below_drewN | apply below_drew1 | refine below_set ?_ GE102.out) | exact HB.out)) hb); have n2_ := Aside0.mk (hbox); have n3_ := Aside0.mk ((by rw [hg]; exact (below_size (by repeat (first | (with_reducible first | exact HB.out | apply below_alloc | apply pw_below_drewN | apply below_drew1 | refine below_set ?_ GE102.out) | exact HB.out))) : w.heap.size ≤ gb103)); have n4_ := Aside0.mk ((by rw [hg]; exact (below_size (by repeat (first | (with_reducible first | exact HB.out | apply below_alloc | apply pw_below_drewN | apply below_drew1 | refine below_set ?_ GE102.out) | exact HB.out))) : w.heap.size ≤ gb103)); have n5_ := Aside0.mk ((by rw [hg]; exact Nat.ne_of_lt (blk_lt (g := gb102) (o := .cells #[.bool a0_0, .int .i64 a0_1, .bool a0_2, .int .i64 a0_3, .slice A0_4 l0_4.length c0_4] 24 (0, 0)) (by (with_reducible repeat (first | refine blk_drewN ?_ _ | refine blk_drew ?_ | refine blk_alloc ?_ _)); exact BK102.out)) : gb102 ≠ gb103)); have n6_ := Aside0.mk ((by rw [hg]; exact Nat.ne_of_gt (blk_lt (g := gb102) (o := .cells #[.bool a0_0, .int .i64 a0_1, .bool a0_2, .int .i64 a0_3, .slice A0_4 l0_4.length c0_4] 24 (0, 0)) (by (with_reducible repeat (first | refine blk_drewN ?_ _ | refine blk_drew ?_ | refine blk_alloc ?_ _)); exact BK102.out)) : gb103 ≠ gb102)); clear BK102; clear HB; have BK102 := n0_; have HB := n1_; have BK103 := n2_; have GW103 := n3_; have GE103 := n4_; have NB102_103 := n5_; have NB103_102 := n6_; clear n0_ n1_ n2_ n3_ n4_ n5_ n6_; clear hb hbox hg; have hnb15 := NB102_103.out; have hnc15 := NB103_102.out; have hcz16_0 : w14.cell? ⟨gb102, 0, none⟩ = some (.bool a0_0) := (blk_cell BK102.out 0).trans rfl; have hcz16_1 : w14.cell? ⟨gb102, 1, none⟩ = some (.int .i64 a0_1) := (blk_cell BK102.out 1).trans rfl; have hcz16_2 : w14.cell? ⟨gb102, 2, none⟩ = some (.bool a0_2) := (blk_cell BK102.out 2).trans rfl; have hcz16_3 : w14.cell? ⟨gb102, 3, none⟩ = some (.int .i64 a0_3) := (blk_cell BK102.out 3).trans rfl; have hcz16_4 : w14.cell? ⟨gb102, 4, none⟩ = some (.slice A0_4 l0_4.length c0_4) := (blk_cell BK102.out 4).trans rfl; have hfz16_0 := blk_frozen BK102.out 0; have hfz16_1 := blk_frozen BK102.out 1; have hfz16_2 := blk_frozen BK102.out 2; have hfz16_3 := blk_frozen BK102.out 3; have hfz16_4 := blk_frozen BK102.out 4; have hcz17_0 : w14.cell? ⟨gb103, 0, none⟩ = some (.bool a1_0) := (blk_cell BK103.out 0).trans rfl; have hcz17_1 : w14.cell? ⟨gb103, 1, none⟩ = some (.int .i64 a1_1) := (blk_cell BK103.out 1).trans rfl; have hcz17_2 : w14.cell? ⟨gb103, 2, none⟩ = some (.bool a1_2) := (blk_cell BK103.out 2).trans rfl; have hcz17_3 : w14.cell? ⟨gb103, 3, none⟩ = some (.int .i64 a1_3) := (blk_cell BK103.out 3).trans rfl; have hcz17_4 : w14.cell? ⟨gb103, 4, none⟩ = some (.slice A1_4 l1_4.length c1_4) := (blk_cell BK103.out 4).trans rfl; have hfz17_0 := blk_frozen BK103.out 0; have hfz17_1 := blk_frozen BK103.out 1; have hfz17_2 := blk_frozen BK103.out 2; have hfz17_3 := blk_frozen BK103.out 3; have hfz17_4 := blk_frozen BK103.out 4))
          go_ret
          exact ⟨by first | rfl | (simp [errW_none, errW_some] <;> rfl) | (simp [*, errW_none, errW_some] <;> rfl), by repeat (first | (with_reducible first | exact HB.out | apply below_alloc | apply pw_below_drewN | apply below_drew1 | refine below_set ?_ GE102.out | refine below_set ?_ GE103.out) | exact HB.out)⟩
      · rw [if_neg c5] at H
        have c5b0 : (a0_2 == a1_2) = false := by simpa using c5
        (try (have c5b1 : decide (a0_2 = a1_2) = false := by simpa using c5))
        (try (have c5b2 : (a0_2 == a1_2) = false := by simpa using c5))
        (try (have c5b3 : ¬ (a0_2 = a1_2) := by simpa using c5))
        clear c5
        obtain rfl := Option.some.inj H
        go_enter Try.func14, Try.ntmps14
        go_wp2_with (first | ((with_reducible refine gate_store (t := 24) (p := 3) rfl ?_); refine HW.store_box rfl rfl 24 _ _ rfl rfl rfl BK103.out rfl (by kernel_rfl) (by intro q hq; simp only [List.mem_cons, List.not_mem_nil, or_false] at hq; rcases hq with rfl | rfl | rfl | rfl | rfl <;> rfl) ?_; intro w1_ hw1_; simp only [List.toList_toArray, World.setCells, Nat.zero_add, Nat.reduceAdd] at hw1_; subst hw1_) | ((with_reducible refine gate_store (t := 24) (p := 2) rfl ?_); refine HW.store_box rfl rfl 24 _ _ rfl rfl rfl BK102.out rfl (by kernel_rfl) (by intro q hq; simp only [List.mem_cons, List.not_mem_nil, or_false] at hq; rcases hq with rfl | rfl | rfl | rfl | rfl <;> rfl) ?_; intro w1_ hw1_; simp only [List.toList_toArray, World.setCells, Nat.zero_add, Nat.reduceAdd] at hw1_; subst hw1_) | ((with_reducible refine gate_dst (N := 2) rfl ?_); refine box_event ?hg (N := 2) ?hd (cs := #[.bool a0_0, .int .i64 a0_1, .bool a0_2, .int .i64 a0_3, .slice A0_4 l0_4.length c0_4]) (t := 24) ?hr ?_; (case hd => rfl); (case hg => rfl); (case hr => first | (go_simp; done) | (go_simp; rfl)); intro gb102 hg w18 hbox hb; have n0_ := Aside0.mk (below_step (by repeat (first | (with_reducible first | exact HB.out | apply below_alloc | apply pw_below_drewN | apply below_drew1) | exact HB.out)) hb); have n1_ := Aside0.mk (hbox); have n2_ := Aside0.mk ((by rw [hg]; exact (below_size (by repeat (first | (with_reducible first | exact HB.out | apply below_alloc | apply pw_below_drewN | apply below_drew1) | exact HB.out))) : w.heap.size ≤ gb102)); have n3_ := Aside0.mk ((by rw [hg]; exact (below_size (by repeat (first | (with_reducible first | exact HB.out | apply below_alloc | apply pw_below_drewN | apply below_drew1) | exact HB.out))) : w.heap.size ≤ gb102)); clear HB; have HB := n0_; have BK102 := n1_; have GW102 := n2_; have GE102 := n3_; clear n0_ n1_ n2_ n3_; clear hb hbox hg) | ((with_reducible refine gate_dst (N := 3) rfl ?_); refine box_event ?hg (N := 3) ?hd (cs := #[.bool a1_0, .int .i64 a1_1, .bool a1_2, .int .i64 a1_3, .slice A1_4 l1_4.length c1_4]) (t := 24) ?hr ?_; (case hd => rfl); (case hg => rfl); (case hr => first | (go_simp; done) | (go_simp; rfl)); intro gb103 hg w19 hbox hb; have n0_ := Aside0.mk (blk_below (g := gb102) (o := .cells #[.bool a0_0, .int .i64 a0_1, .bool a0_2, .int .i64 a0_3, .slice A0_4 l0_4.length c0_4] 24 (0, 0)) (by (with_reducible repeat (first | refine blk_drewN ?_ _ | refine blk_drew ?_ | refine blk_alloc ?_ _)); exact BK102.out) hb); have n1_ := Aside0.mk (below_step (by repeat (first | (with_reducible first | exact HB.out | apply below_alloc | apply pw_below_drewN | apply below_drew1 | refine below_set ?_ GE102.out) | exact HB.out)) hb); have n2_ := Aside0.mk (hbox); have n3_ := Aside0.mk ((by rw [hg]; exact (below_size (by repeat (first | (with_reducible first | exact HB.out | apply below_alloc | apply pw_below_drewN | apply below_drew1 | refine below_set ?_ GE102.out) | exact HB.out))) : w.heap.size ≤ gb103)); have n4_ := Aside0.mk ((by rw [hg]; exact (below_size (by repeat (first | (with_reducible first | exact HB.out | apply below_alloc | apply pw_below_drewN | apply below_drew1 | refine below_set ?_ GE102.out) | exact HB.out))) : w.heap.size ≤ gb103)); have n5_ := Aside0.mk ((by rw [hg]; exact Nat.ne_of_lt (blk_lt (g := gb102) (o := .cells #[.bool a0_0, .int .i64 a0_1, .bool a0_2, .int .i64 a0_3, .slice A0_4 l0_4.length c0_4] 24 (0, 0)) (by (with_reducible repeat (first | refine blk_drewN ?_ _ | refine blk_drew ?_ | refine blk_alloc ?_ _)); exact BK102.out)) : gb102 ≠ gb103)); have n6_ := Aside0.mk ((by rw [hg]; exact Nat.ne_of_gt (blk_lt (g := gb102) (o := .cells #[.bool a0_0, .int .i64 a0_1, .bool a0_2, .int .i64 a0_3, .slice A0_4 l0_4.length c0_4] 24 (0, 0)) (by (with_reducible repeat (first | refine blk_drewN ?_ _ | refine blk_drew ?_ | refine blk_alloc ?_ _)); exact BK102.out)) : gb103 ≠ gb102)); clear BK102; clear HB; have BK102 := n0_; have HB := n1_; have BK103 := n2_; have GW103 := n3_; have GE103 := n4_; have NB102_103 := n5_; have NB103_102 := n6_; clear n0_ n1_ n2_ n3_ n4_ n5_ n6_; clear hb hbox hg; have hnb20 := NB102_103.out; have hnc20 := NB103_102.out; have hcz21_0 : w19.cell? ⟨gb102, 0, none⟩ = some (.bool a0_0) := (blk_cell BK102.out 0).trans rfl; have hcz21_1 : w19.cell? ⟨gb102, 1, none⟩ = some (.int .i64 a0_1) := (blk_cell BK102.out 1).trans rfl; have hcz21_2 : w19.cell? ⟨gb102, 2, none⟩ = some (.bool a0_2) := (blk_cell BK102.out 2).trans rfl; have hcz21_3 : w19.cell? ⟨gb102, 3, none⟩ = some (.int .i64 a0_3) := (blk_cell BK102.out 3).trans rfl; have hcz21_4 : w19.cell? ⟨gb102, 4, none⟩ = some (.slice A0_4 l0_4.length c0_4) := (blk_cell BK102.out 4).trans rfl; have hfz21_0 := blk_frozen BK102.out 0; have hfz21_1 := blk_frozen BK102.out 1; have hfz21_2 := blk_frozen BK102.out 2; have hfz21_3 := blk_frozen BK102.out 3; have hfz21_4 := blk_frozen BK102.out 4; have hcz22_0 : w19.cell? ⟨gb103, 0, none⟩ = some (.bool a1_0) := (blk_cell BK103.out 0).trans rfl; have hcz22_1 : w19.cell? ⟨gb103, 1, none⟩ = some (.int .i64 a1_1) := (blk_cell BK103.out 1).trans rfl; have hcz22_2 : w19.cell? ⟨gb103, 2, none⟩ = some (.bool a1_2) := (blk_cell BK103.out 2).trans rfl; have hcz22_3 : w19.cell? ⟨gb103, 3, none⟩ = some (.int .i64 a1_3) := (blk_cell BK103.out 3).trans rfl; have hcz22_4 : w19.cell? ⟨gb103, 4, none⟩ = some (.slice A1_4 l1_4.length c1_4) := (blk_cell BK103.out 4).trans rfl; have hfz22_0 := blk_frozen BK103.out 0; have hfz22_1 := blk_frozen BK103.out 1; have hfz22_2 := blk_frozen BK103.out 2; have hfz22_3 := blk_frozen BK103.out 3; have hfz22_4 := blk_frozen BK103.out 4))
        go_ret
        exact ⟨by first | rfl | (simp [errW_none, errW_some] <;> rfl) | (simp [*, errW_none, errW_some] <;> rfl), by repeat (first | (with_reducible first | exact HB.out | apply below_alloc | apply pw_below_drewN | apply below_drew1 | refine below_set ?_ GE102.out | refine below_set ?_ GE103.out) | exact HB.out)⟩
    · rw [if_neg c4] at H
      have c4b0 : (a0_1 == a1_1) = false := beq_eq_false_iff_ne.mpr c4
      have c4b1 : (a0_1 != a1_1) = true := bne_iff_ne.mpr c4
      obtain rfl := Option.some.inj H
      go_enter Try.func14, Try.ntmps14
      go_wp2_with (first | ((with_reducible refine gate_store (t := 24) (p := 3) rfl ?_); refine HW.store_box rfl rfl 24 _ _ rfl rfl rfl BK103.out rfl (by kernel_rfl) (by intro q hq; simp only [List.mem_cons, List.not_mem_nil, or_false] at hq; rcases hq with rfl | rfl | rfl | rfl | rfl <;> rfl) ?_; intro w1_ hw1_; simp only [List.toList_toArray, World.setCells, Nat.zero_add, Nat.reduceAdd] at hw1_; subst hw1_) | ((with_reducible refine gate_store (t := 24) (p := 2) rfl ?_); refine HW.store_box rfl rfl 24 _ _ rfl rfl rfl BK102.out rfl (by kernel_rfl) (by intro q hq; simp only [List.mem_cons, List.not_mem_nil, or_false] at hq; rcases hq with rfl | rfl | rfl | rfl | rfl <;> rfl) ?_; intro w1_ hw1_; simp only [List.toList_toArray, World.setCells, Nat.zero_add, Nat.reduceAdd] at hw1_; subst hw1_) | ((with_reducible refine gate_dst (N := 2) rfl ?_); refine box_event ?hg (N := 2) ?hd (cs := #[.bool a0_0, .int .i64 a0_1, .bool a0_2, .int .i64 a0_3, .slice A0_4 l0_4.length c0_4]) (t := 24) ?hr ?_; (case hd => rfl); (case hg => rfl); (case hr => first | (go_simp; done) | (go_simp; rfl)); intro gb102 hg w23 hbox hb; have n0_ := Aside0.mk (below_step (by repeat (first | (with_reducible first | exact HB.out | apply below_alloc | apply pw_below_drewN | apply below_drew1) | exact HB.out)) hb); have n1_ := Aside0.mk (hbox); have n2_ := Aside0.mk ((by rw [hg]; exact (below_size (by repeat (first | (with_reducible first | exact HB.out | apply below_alloc | apply pw_below_drewN | apply below_drew1) | exact HB.out))) : w.heap.size ≤ gb102)); have n3_ := Aside0.mk ((by rw [hg]; exact (below_size (by repeat (first | (with_reducible first | exact HB.out | apply below_alloc | apply pw_below_drewN | apply below_drew1) | exact HB.out))) : w.heap.size ≤ gb102)); clear HB; have HB := n0_; have BK102 := n1_; have GW102 := n2_; have GE102 := n3_; clear n0_ n1_ n2_ n3_; clear hb hbox hg) | ((with_reducible refine gate_dst (N := 3) rfl ?_); refine box_event ?hg (N := 3) ?hd (cs := #[.bool a1_0, .int .i64 a1_1, .bool a1_2, .int .i64 a1_3, .slice A1_4 l1_4.length c1_4]) (t := 24) ?hr ?_; (case hd => rfl); (case hg => rfl); (case hr => first | (go_simp; done) | (go_simp; rfl)); intro gb103 hg w24 hbox hb; have n0_ := Aside0.mk (blk_below (g := gb102) (o := .cells #[.bool a0_0, .int .i64 a0_1, .bool a0_2, .int .i64 a0_3, .slice A0_4 l0_4.length c0_4] 24 (0, 0)) (by (with_reducible repeat (first | refine blk_drewN ?_ _ | refine blk_drew ?_ | refine blk_alloc ?_ _)); exact BK102.out) hb); have n1_ := Aside0.mk (below_step (by repeat (first | (with_reducible first | exact HB.out | apply below_alloc | apply pw_below_drewN | apply below_drew1 | refine below_set ?_ GE102.out) | exact HB.out)) hb); have n2_ := Aside0.mk (hbox); have n3_ := Aside0.mk ((by rw [hg]; exact (below_size (by repeat (first | (with_reducible first | exact HB.out | apply below_alloc | apply pw_below_drewN | apply below_drew1 | refine below_set ?_ GE102.out) | exact HB.out))) : w.heap.size ≤ gb103)); have n4_ := Aside0.mk ((by rw [hg]; exact (below_size (by repeat (first | (with_reducible first | exact HB.out | apply below_alloc | apply pw_below_drewN | apply below_drew1 | refine below_set ?_ GE102.out) | exact HB.out))) : w.heap.size ≤ gb103)); have n5_ := Aside0.mk ((by rw [hg]; exact Nat.ne_of_lt (blk_lt (g := gb102) (o := .cells #[.bool a0_0, .int .i64 a0_1, .bool a0_2, .int .i64 a0_3, .slice A0_4 l0_4.length c0_4] 24 (0, 0)) (by (with_reducible repeat (first | refine blk_drewN ?_ _ | refine blk_drew ?_ | refine blk_alloc ?_ _)); exact BK102.out)) : gb102 ≠ gb103)); have n6_ := Aside0.mk ((by rw [hg]; exact Nat.ne_of_gt (blk_lt (g := gb102) (o := .cells #[.bool a0_0, .int .i64 a0_1, .bool a0_2, .int .i64 a0_3, .slice A0_4 l0_4.length c0_4] 24 (0, 0)) (by (with_reducible repeat (first | refine blk_drewN ?_ _ | refine blk_drew ?_ | refine blk_alloc ?_ _)); exact BK102.out)) : gb103 ≠ gb102)); clear BK102; clear HB; have BK102 := n0_; have HB := n1_; have BK103 := n2_; have GW103 := n3_; have GE103 := n4_; have NB102_103 := n5_; have NB103_102 := n6_; clear n0_ n1_ n2_ n3_ n4_ n5_ n6_; clear hb hbox hg; have hnb25 := NB102_103.out; have hnc25 := NB103_102.out; have hcz26_0 : w24.cell? ⟨gb102, 0, none⟩ = some (.bool a0_0) := (blk_cell BK102.out 0).trans rfl; have hcz26_1 : w24.cell? ⟨gb102, 1, none⟩ = some (.int .i64 a0_1) := (blk_cell BK102.out 1).trans rfl; have hcz26_2 : w24.cell? ⟨gb102, 2, none⟩ = some (.bool a0_2) := (blk_cell BK102.out 2).trans rfl; have hcz26_3 : w24.cell? ⟨gb102, 3, none⟩ = some (.int .i64 a0_3) := (blk_cell BK102.out 3).trans rfl; have hcz26_4 : w24.cell? ⟨gb102, 4, none⟩ = some (.slice A0_4 l0_4.length c0_4) := (blk_cell BK102.out 4).trans rfl; have hfz26_0 := blk_frozen BK102.out 0; have hfz26_1 := blk_frozen BK102.out 1; have hfz26_2 := blk_frozen BK102.out 2; have hfz26_3 := blk_frozen BK102.out 3; have hfz26_4 := blk_frozen BK102.out 4; have hcz27_0 : w24.cell? ⟨gb103, 0, none⟩ = some (.bool a1_0) := (blk_cell BK103.out 0).trans rfl; have hcz27_1 : w24.cell? ⟨gb103, 1, none⟩ = some (.int .i64 a1_1) := (blk_cell BK103.out 1).trans rfl; have hcz27_2 : w24.cell? ⟨gb103, 2, none⟩ = some (.bool a1_2) := (blk_cell BK103.out 2).trans rfl; have hcz27_3 : w24.cell? ⟨gb103, 3, none⟩ = some (.int .i64 a1_3) := (blk_cell BK103.out 3).trans rfl; have hcz27_4 : w24.cell? ⟨gb103, 4, none⟩ = some (.slice A1_4 l1_4.length c1_4) := (blk_cell BK103.out 4).trans rfl; have hfz27_0 := blk_frozen BK103.out 0; have hfz27_1 := blk_frozen BK103.out 1; have hfz27_2 := blk_frozen BK103.out 2; have hfz27_3 := blk_frozen BK103.out 3; have hfz27_4 := blk_frozen BK103.out 4))
      go_ret
      exact ⟨by first | rfl | (simp [errW_none, errW_some] <;> rfl) | (simp [*, errW_none, errW_some] <;> rfl), by repeat (first | (with_reducible first | exact HB.out | apply below_alloc | apply pw_below_drewN | apply below_drew1 | refine below_set ?_ GE102.out | refine below_set ?_ GE103.out) | exact HB.out)⟩
  · rw [if_neg c3] at H
    have c3b0 : (a0_0 == a1_0) = false := by simpa using c3
    (try (have c3b1 : decide (a0_0 = a1_0) = false := by simpa using c3))
    (try (have c3b2 : (a0_0 == a1_0) = false := by simpa using c3))
    (try (have c3b3 : ¬ (a0_0 = a1_0) := by simpa using c3))
    clear c3
    obtain rfl := Option.some.inj H
    go_enter Try.func14, Try.ntmps14
    go_wp2_with (first | ((with_reducible refine gate_store (t := 24) (p := 3) rfl ?_); refine HW.store_box rfl rfl 24 _ _ rfl rfl rfl BK103.out rfl (by kernel_rfl) (by intro q hq; simp only [List.mem_cons, List.not_mem_nil, or_false] at hq; rcases hq with rfl | rfl | rfl | rfl | rfl <;> rfl) ?_; intro w1_ hw1_; simp only [List.toList_toArray, World.setCells, Nat.zero_add, Nat.reduceAdd] at hw1_; subst hw1_) | ((with_reducible refine gate_store (t := 24) (p := 2) rfl ?_); refine HW.store_box rfl rfl 24 _ _ rfl rfl rfl BK102.out rfl (by kernel_rfl) (by intro q hq; simp only [List.mem_cons, List.not_mem_nil, or_false] at hq; rcases hq with rfl | rfl | rfl | rfl | rfl <;> rfl) ?_; intro w1_ hw1_; simp only [List.toList_toArray, World.setCells, Nat.zero_add, Nat.reduceAdd] at hw1_; subst hw1_) | ((with_reducible refine gate_dst (N := 2) rfl ?_); refine box_event ?hg (N := 2) ?hd (cs := #[.bool a0_0, .int .i64 a0_1, .bool a0_2, .int .i64 a0_3, .slice A0_4 l0_4.length c0_4]) (t := 24) ?hr ?_; (case hd => rfl); (case hg => rfl); (case hr => first | (go_simp; done) | (go_simp; rfl)); intro gb102 hg w28 hbox hb; have n0_ := Aside0.mk (below_step (by repeat (first | (with_reducible first | exact HB.out | apply below_alloc | apply pw_below_drewN | apply below_drew1) | exact HB.out)) hb); have n1_ := Aside0.mk (hbox); have n2_ := Aside0.mk ((by rw [hg]; exact (below_size (by repeat (first | (with_reducible first | exact HB.out | apply below_alloc | apply pw_below_drewN | apply below_drew1) | exact HB.out))) : w.heap.size ≤ gb102)); have n3_ := Aside0.mk ((by rw [hg]; exact (below_size (by repeat (first | (with_reducible first | exact HB.out | apply below_alloc | apply pw_below_drewN | apply below_drew1) | exact HB.out))) : w.heap.size ≤ gb102)); clear HB; have HB := n0_; have BK102 := n1_; have GW102 := n2_; have GE102 := n3_; clear n0_ n1_ n2_ n3_; clear hb hbox hg) | ((with_reducible refine gate_dst (N := 3) rfl ?_); refine box_event ?hg (N := 3) ?hd (cs := #[.bool a1_0, .int .i64 a1_1, .bool a1_2, .int .i64 a1_3, .slice A1_4 l1_4.length c1_4]) (t := 24) ?hr ?_; (case hd => rfl); (case hg => rfl); (case hr => first | (go_simp; done) | (go_simp; rfl)); intro gb103 hg w29 hbox hb; have n0_ := Aside0.mk (blk_below (g := gb102) (o := .cells #[.bool a0_0, .int .i64 a0_1, .bool a0_2, .int .i64 a0_3, .slice A0_4 l0_4.length c0_4] 24 (0, 0)) (by (with_reducible repeat (first | refine blk_drewN ?_ _ | refine blk_drew ?_ | refine blk_alloc ?_ _)); exact BK102.out) hb); have n1_ := Aside0.mk (below_step (by repeat (first | (with_reducible first | exact HB.out | apply below_alloc | apply pw_below_drewN | apply below_drew1 | refine below_set ?_ GE102.out) | exact HB.out)) hb); have n2_ := Aside0.mk (hbox); have n3_ := Aside0.mk ((by rw [hg]; exact (below_size (by repeat (first | (with_reducible first | exact HB.out | apply below_alloc | apply pw_below_drewN | apply below_drew1 | refine below_set ?_ GE102.out) | exact HB.out))) : w.heap.size ≤ gb103)); have n4_ := Aside0.mk ((by rw [hg]; exact (below_size (by repeat (first | (with_reducible first | exact HB.out | apply below_alloc | apply pw_below_drewN | apply below_drew1 | refine below_set ?_ GE102.out) | exact HB.out))) : w.heap.size ≤ gb103)); have n5_ := Aside0.mk ((by rw [hg]; exact Nat.ne_of_lt (blk_lt (g := gb102) (o := .cells #[.bool a0_0, .int .i64 a0_1, .bool a0_2, .int .i64 a0_3, .slice A0_4 l0_4.length c0_4] 24 (0, 0)) (by (with_reducible repeat (first | refine blk_drewN ?_ _ | refine blk_drew ?_ | refine blk_alloc ?_ _)); exact BK102.out)) : gb102 ≠ gb103)); have n6_ := Aside0.mk ((by rw [hg]; exact Nat.ne_of_gt (blk_lt (g := gb102) (o := .cells #[.bool a0_0, .int .i64 a0_1, .bool a0_2, .int .i64 a0_3, .slice A0_4 l0_4.length c0_4] 24 (0, 0)) (by (with_reducible repeat (first | refine blk_drewN ?_ _ | refine blk_drew ?_ | refine blk_alloc ?_ _)); exact BK102.out)) : gb103 ≠ gb102)); clear BK102; clear HB; have BK102 := n0_; have HB := n1_; have BK103 := n2_; have GW103 := n3_; have GE103 := n4_; have NB102_103 := n5_; have NB103_102 := n6_; clear n0_ n1_ n2_ n3_ n4_ n5_ n6_; clear hb hbox hg; have hnb30 := NB102_103.out; have hnc30 := NB103_102.out; have hcz31_0 : w29.cell? ⟨gb102, 0, none⟩ = some (.bool a0_0) := (blk_cell BK102.out 0).trans rfl; have hcz31_1 : w29.cell? ⟨gb102, 1, none⟩ = some (.int .i64 a0_1) := (blk_cell BK102.out 1).trans rfl; have hcz31_2 : w29.cell? ⟨gb102, 2, none⟩ = some (.bool a0_2) := (blk_cell BK102.out 2).trans rfl; have hcz31_3 : w29.cell? ⟨gb102, 3, none⟩ = some (.int .i64 a0_3) := (blk_cell BK102.out 3).trans rfl; have hcz31_4 : w29.cell? ⟨gb102, 4, none⟩ = some (.slice A0_4 l0_4.length c0_4) := (blk_cell BK102.out 4).trans rfl; have hfz31_0 := blk_frozen BK102.out 0; have hfz31_1 := blk_frozen BK102.out 1; have hfz31_2 := blk_frozen BK102.out 2; have hfz31_3 := blk_frozen BK102.out 3; have hfz31_4 := blk_frozen BK102.out 4; have hcz32_0 : w29.cell? ⟨gb103, 0, none⟩ = some (.bool a1_0) := (blk_cell BK103.out 0).trans rfl; have hcz32_1 : w29.cell? ⟨gb103, 1, none⟩ = some (.int .i64 a1_1) := (blk_cell BK103.out 1).trans rfl; have hcz32_2 : w29.cell? ⟨gb103, 2, none⟩ = some (.bool a1_2) := (blk_cell BK103.out 2).trans rfl; have hcz32_3 : w29.cell? ⟨gb103, 3, none⟩ = some (.int .i64 a1_3) := (blk_cell BK103.out 3).trans rfl; have hcz32_4 : w29.cell? ⟨gb103, 4, none⟩ = some (.slice A1_4 l1_4.length c1_4) := (blk_cell BK103.out 4).trans rfl; have hfz32_0 := blk_frozen BK103.out 0; have hfz32_1 := blk_frozen BK103.out 1; have hfz32_2 := blk_frozen BK103.out 2; have hfz32_3 := blk_frozen BK103.out 3; have hfz32_4 := blk_frozen BK103.out 4))
    go_ret
    exact ⟨by first | rfl | (simp [errW_none, errW_some] <;> rfl) | (simp [*, errW_none, errW_some] <;> rfl), by repeat (first | (with_reducible first | exact HB.out | apply below_alloc | apply pw_below_drewN | apply below_drew1 | refine below_set ?_ GE102.out | refine below_set ?_ GE103.out) | exact HB.out)⟩

/-! ### phaetonref01_SameBytes: function 25 -/
def phaetonref01_SameBytes.f (l0 : List Int) (l1 : List Int) : Option (Bool) := some ((strOfNums l0).toList == (strOfNums l1).toList)
set_option maxHeartbeats 8000000 in
set_option maxRecDepth 100000 in
theorem phaetonref01_SameBytes.calls (A0 : Option Addr) (c0 : Nat) (l0 : List Int) (A1 : Option Addr) (c1 : Nat) (l1 : List Int) (r : Bool) (w : World) (hr0 : Kd.C (Kd.int .u8) w A0 l0.length l0) (hc0 : l0.length ≤ c0) (hr1 : Kd.C (Kd.int .u8) w A1 l1.length l1) (hc1 : l1.length ≤ c1) (h : phaetonref01_SameBytes.f l0 l1 = some r) :
    Calls Try.prog 25 #[.slice A0 l0.length c0, .slice A1 l1.length c1] w fun e w' => e = .returned (.bool r) ∧ Drawn0 w w' := by
  have HR0 := Aside0.mk hr0
  have HC0 := Aside0.mk hc0
  clear hr0 hc0
  have HR1 := Aside0.mk hr1
  have HC1 := Aside0.mk hc1
  clear hr1 hc1
  have H : (some ((strOfNums l0).toList == (strOfNums l1).toList)) = some r := h
  clear h
  obtain rfl := Option.some.inj H
  have hcv3 := Kd.C_string (P := Try.prog) (A := A0) (c := c0) Try.underlying22 Try.underlying5 Try.underlying9 HR0.out
  have hcv4 := Kd.C_string (P := Try.prog) (A := A1) (c := c1) Try.underlying22 Try.underlying5 Try.underlying9 HR1.out
  go_enter Try.func25, Try.ntmps25
  go_wp2
  go_ret
  exact ⟨by first | rfl | (simp; done) | (simp [*]; done), by repeat (first | exact Drawn0.refl _ | apply Drawn0.step)⟩

/-! ### phaetonref04_Same: function 15 -/
def phaetonref04_Same.f (a0_0 : Bool) (a0_1 : Int) (a0_2 : Bool) (a0_3 : Int) (l0_4 : List Int) (a1_0 : Bool) (a1_1 : Int) (a1_2 : Bool) (a1_3 : Int) (l1_4 : List Int) : Option (Bool) := if (a0_0 == a1_0) = true then (if a0_1 = a1_1 then (if (a0_2 == a1_2) = true then (if a0_3 = a1_3 then ((phaetonref01_SameBytes.f l0_4 l1_4).bind fun t107 => (some t107)) else (some false)) else (some false)) else (some false)) else (some false)
set_option maxHeartbeats 8000000 in
set_option maxRecDepth 100000 in
theorem phaetonref04_Same.calls (a0_0 : Bool) (a0_1 : Int) (a0_2 : Bool) (a0_3 : Int) (A0_4 : Option Addr) (c0_4 : Nat) (l0_4 : List Int) (a1_0 : Bool) (a1_1 : Int) (a1_2 : Bool) (a1_3 : Int) (A1_4 : Option Addr) (c1_4 : Nat) (l1_4 : List Int) (r : Bool) (w : World) (hr0_4 : Kd.C (Kd.int .u8) w A0_4 l0_4.length l0_4) (hc0_4 : l0_4.length ≤ c0_4) (hr1_4 : Kd.C (Kd.int .u8) w A1_4 l1_4.length l1_4) (hc1_4 : l1_4.length ≤ c1_4) (h : phaetonref04_Same.f a0_0 a0_1 a0_2 a0_3 l0_4 a1_0 a1_1 a1_2 a1_3 l1_4 = some r) :
    Calls Try.prog 15 #[.agg #[.bool a0_0, .int .i64 a0_1, .bool a0_2, .int .i64 a0_3, .slice A0_4 l0_4.length c0_4], .agg #[.bool a1_0, .int .i64 a1_1, .bool a1_2, .int .i64 a1_3, .slice A1_4 l1_4.length c1_4]] w fun e w' => e = .returned (.bool r) ∧ Below w.heap.size w w' := by
  have hu24 := Try.underlying24
  have HR0_4 := Aside0.mk hr0_4
  have HC0_4 := Aside0.mk hc0_4
  clear hr0_4 hc0_4
  have HR1_4 := Aside0.mk hr1_4
  have HC1_4 := Aside0.mk hc1_4
  clear hr1_4 hc1_4
  have HB := Aside0.mk (Below.refl w.heap.size w)
  have H : (if (a0_0 == a1_0) = true then (if a0_1 = a1_1 then (if (a0_2 == a1_2) = true then (if a0_3 = a1_3 then ((phaetonref01_SameBytes.f l0_4 l1_4).bind fun t107 => (some t107)) else (some false)) else (some false)) else (some false)) else (some false)) = some r := h
  clear h
  by_cases c3 : (a0_0 == a1_0) = true
  · rw [if_pos c3] at H
    have c3b0 : (a0_0 == a1_0) = true := c3
    (try (have c3b1 : decide (a0_0 = a1_0) = true := by simpa using c3))
    (try (have c3b2 : (a0_0 == a1_0) = true := by simpa using c3))
    clear c3
    by_cases c4 : a0_1 = a1_1
    · rw [if_pos c4] at H
      have c4b0 : (a0_1 == a1_1) = true := beq_iff_eq.mpr c4
      have c4b1 : (a0_1 != a1_1) = false := bne_eq_false_iff_eq.mpr c4
      clear c4
      by_cases c5 : (a0_2 == a1_2) = true
      · rw [if_pos c5] at H
        have c5b0 : (a0_2 == a1_2) = true := c5
        (try (have c5b1 : decide (a0_2 = a1_2) = true := by simpa using c5))
        (try (have c5b2 : (a0_2 == a1_2) = true := by simpa using c5))
        clear c5
        by_cases c6 : a0_3 = a1_3
        · rw [if_pos c6] at H
          have c6b0 : (a0_3 == a1_3) = true := beq_iff_eq.mpr c6
          have c6b1 : (a0_3 != a1_3) = false := bne_eq_false_iff_eq.mpr c6
          clear c6
          replace H := Option.bind_eq_some_iff.mp H
          obtain ⟨t107, A70, H⟩ := H
          replace H : (some t107) = some r := H
          have A7 := Aside0.mk A70
          clear A70
          obtain rfl := Option.some.inj H
          go_enter Try.func15, Try.ntmps15
          go_wp2_with (first | ((with_reducible refine gate_store (t := 24) (p := 3) rfl ?_); refine HW.store_box rfl rfl 24 _ _ rfl rfl rfl BK106.out rfl (by kernel_rfl) (by intro q hq; simp only [List.mem_cons, List.not_mem_nil, or_false] at hq; rcases hq with rfl | rfl | rfl | rfl | rfl <;> rfl) ?_; intro w1_ hw1_; simp only [List.toList_toArray, World.setCells, Nat.zero_add, Nat.reduceAdd] at hw1_; subst hw1_) | ((with_reducible refine gate_store (t := 24) (p := 2) rfl ?_); refine HW.store_box rfl rfl 24 _ _ rfl rfl rfl BK105.out rfl (by kernel_rfl) (by intro q hq; simp only [List.mem_cons, List.not_mem_nil, or_false] at hq; rcases hq with rfl | rfl | rfl | rfl | rfl <;> rfl) ?_; intro w1_ hw1_; simp only [List.toList_toArray, World.setCells, Nat.zero_add, Nat.reduceAdd] at hw1_; subst hw1_) | ((with_reducible refine gate_dst (N := 2) rfl ?_); refine box_event ?hg (N := 2) ?hd (cs := #[.bool a0_0, .int .i64 a0_1, .bool a0_2, .int .i64 a0_3, .slice A0_4 l0_4.length c0_4]) (t := 24) ?hr ?_; (case hd => rfl); (case hg => rfl); (case hr => first | (go_simp; done) | (go_simp; rfl)); intro gb105 hg w8 hbox hb; have n0_ := Aside0.mk (below_step (by repeat (first | (with_reducible first | exact HB.out | apply below_alloc | apply pw_below_drewN | apply below_drew1) | exact HB.out)) hb); have n1_ := Aside0.mk (hbox); have n2_ := Aside0.mk ((by rw [hg]; exact (below_size (by repeat (first | (with_reducible first | exact HB.out | apply below_alloc | apply pw_below_drewN | apply below_drew1) | exact HB.out))) : w.heap.size ≤ gb105)); have n3_ := Aside0.mk ((by rw [hg]; exact (below_size (by repeat (first | (with_reducible first | exact HB.out | apply below_alloc | apply pw_below_drewN | apply below_drew1) | exact HB.out))) : w.heap.size ≤ gb105)); clear HB; have HB := n0_; have BK105 := n1_; have GW105 := n2_; have GE105 := n3_; clear n0_ n1_ n2_ n3_; clear hb hbox hg) | ((with_reducible refine gate_dst (N := 3) rfl ?_); refine box_event ?hg (N := 3) ?hd (cs := #[.bool a1_0, .int .i64 a1_1, .bool a1_2, .int .i64 a1_3, .slice A1_4 l1_4.length c1_4]) (t := 24) ?hr ?_; (case hd => rfl); (case hg => rfl); (case hr => first | (go_simp; done) | (go_simp; rfl)); intro gb106 hg w9 hbox hb; have n0_ := Aside0.mk (blk_below (g := gb105) (o := .cells #[.bool a0_0, .int .i64 a0_1, .bool a0_2, .int .i64 a0_3, .slice A0_4 l0_4.length c0_4] 24 (0, 0)) (by (with_reducible repeat (first | refine blk_drewN ?_ _ | refine blk_drew ?_ | refine blk_alloc ?_ _)); exact BK105.out) hb); have n1_ := Aside0.mk (below_step (by repeat (first | (with_reducible first | exact HB.out | apply below_alloc | apply pw_below_drewN | apply below_drew1 | refine below_set ?_ GE105.out) | exact HB.out)) hb); have n2_ := Aside0.mk (hbox); have n3_ := Aside0.mk ((by rw [hg]; exact (below_size (by repeat (first | (with_reducible first | exact HB.out | apply below_alloc | apply pw_below_drewN | apply below_drew1 | refine below_set ?_ GE105.out) | exact HB.out))) : w.heap.size ≤ gb106)); have n4_ := Aside0.mk ((by rw [hg]; exact (below_size (by repeat (first | (with_reducible first | exact HB.out | apply below_alloc | apply pw_below_drewN | apply below_drew1 | refine below_set ?_ GE105.out) | exact HB.out))) : w.heap.size ≤ gb106)); have n5_ := Aside0.mk ((by rw [hg]; exact Nat.ne_of_lt (blk_lt (g := gb105) (o := .cells #[.bool a0_0, .int .i64 a0_1, .bool a0_2, .int .i64 a0_3, .slice A0_4 l0_4.length c0_4] 24 (0, 0)) (by (with_reducible repeat (first | refine blk_drewN ?_ _ | refine blk_drew ?_ | refine blk_alloc ?_ _)); exact BK105.out)) : gb105 ≠ gb106)); have n6_ := Aside0.mk ((by rw [hg]; exact Nat.ne_of_gt (blk_lt (g := gb105) (o := .cells #[.bool a0_0, .int .i64 a0_1, .bool a0_2, .int .i64 a0_3, .slice A0_4 l0_4.length c0_4] 24 (0, 0)) (by (with_reducible repeat (first | refine blk_drewN ?_ _ | refine blk_drew ?_ | refine blk_alloc ?_ _)); exact BK105.out)) : gb106 ≠ gb105)); clear BK105; clear HB; have BK105 := n0_; have HB := n1_; have BK106 := n2_; have GW106 := n3_; have GE106 := n4_; have NB105_106 := n5_; have NB106_105 := n6_; clear n0_ n1_ n2_ n3_ n4_ n5_ n6_; clear hb hbox hg; have hnb10 := NB105_106.out; have hnc10 := NB106_105.out; have hcz11_0 : w9.cell? ⟨gb105, 0, none⟩ = some (.bool a0_0) := (blk_cell BK105.out 0).trans rfl; have hcz11_1 : w9.cell? ⟨gb105, 1, none⟩ = some (.int .i64 a0_1) := (blk_cell BK105.out 1).trans rfl; have hcz11_2 : w9.cell? ⟨gb105, 2, none⟩ = some (.bool a0_2) := (blk_cell BK105.out 2).trans rfl; have hcz11_3 : w9.cell? ⟨gb105, 3, none⟩ = some (.int .i64 a0_3) := (blk_cell BK105.out 3).trans rfl; have hcz11_4 : w9.cell? ⟨gb105, 4, none⟩ = some (.slice A0_4 l0_4.length c0_4) := (blk_cell BK105.out 4).trans rfl; have hfz11_0 := blk_frozen BK105.out 0; have hfz11_1 := blk_frozen BK105.out 1; have hfz11_2 := blk_frozen BK105.out 2; have hfz11_3 := blk_frozen BK105.out 3; have hfz11_4 := blk_frozen BK105.out 4; have hcz12_0 : w9.cell? ⟨gb106, 0, none⟩ = some (.bool a1_0) := (blk_cell BK106.out 0).trans rfl; have hcz12_1 : w9.cell? ⟨gb106, 1, none⟩ = some (.int .i64 a1_1) := (blk_cell BK106.out 1).trans rfl; have hcz12_2 : w9.cell? ⟨gb106, 2, none⟩ = some (.bool a1_2) := (blk_cell BK106.out 2).trans rfl; have hcz12_3 : w9.cell? ⟨gb106, 3, none⟩ = some (.int .i64 a1_3) := (blk_cell BK106.out 3).trans rfl; have hcz12_4 : w9.cell? ⟨gb106, 4, none⟩ = some (.slice A1_4 l1_4.length c1_4) := (blk_cell BK106.out 4).trans rfl; have hfz12_0 := blk_frozen BK106.out 0; have hfz12_1 := blk_frozen BK106.out 1; have hfz12_2 := blk_frozen BK106.out 2; have hfz12_3 := blk_frozen BK106.out 3; have hfz12_4 := blk_frozen BK106.out 4) | (go_at_call 25; (with_reducible refine (phaetonref01_SameBytes.calls _ _ l0_4 _ _ l1_4 t107 _ ?side1 ?side2 ?side3 ?side4 A7.out).mono ?_); (case side1 => repeat (first | exact (Kd.C_below HR0_4.out HB.out) | (with_reducible refine Kd.C_alloc ?_ _) | (with_reducible refine Kd.C_drewN ?_ _) | (with_reducible refine Kd.C_drew ?_))); (case side2 => exact HC0_4.out); (case side3 => repeat (first | exact (Kd.C_below HR1_4.out HB.out) | (with_reducible refine Kd.C_alloc ?_ _) | (with_reducible refine Kd.C_drewN ?_ _) | (with_reducible refine Kd.C_drew ?_))); (case side4 => exact HC1_4.out); rintro e w' ⟨rfl, ⟨nd, rfl⟩⟩))
          go_ret
          exact ⟨by first | rfl | (simp [errW_none, errW_some] <;> rfl) | (simp [*, errW_none, errW_some] <;> rfl), by repeat (first | (with_reducible first | exact HB.out | apply below_alloc | apply pw_below_drewN | apply below_drew1 | refine below_set ?_ GE105.out | refine below_set ?_ GE106.out) | exact HB.out)⟩
        · rw [if_neg c6] at H
          have c6b0 : (a0_3 == a1_3) = false := beq_eq_false_iff_ne.mpr c6
          have c6b1 : (a0_3 != a1_3) = true := bne_iff_ne.mpr c6
          obtain rfl := Option.some.inj H
          go_enter Try.func15, Try.ntmps15
          go_wp2_with (first | ((with_reducible refine gate_store (t := 24) (p := 3) rfl ?_); refine HW.store_box rfl rfl 24 _ _ rfl rfl rfl BK106.out rfl (by kernel_rfl) (by intro q hq; simp only [List.mem_cons, List.not_mem_nil, or_false] at hq; rcases hq with rfl | rfl | rfl | rfl | rfl <;> rfl) ?_; intro w1_ hw1_; simp only [List.toList_toArray, World.setCells, Nat.zero_add, Nat.reduceAdd] at hw1_; subst hw1_) | ((with_reducible refine gate_store (t := 24) (p := 2) rfl ?_); refine HW.store_box rfl rfl 24 _ _ rfl rfl rfl BK105.out rfl (by kernel_rfl) (by intro q hq; simp only [List.mem_cons, List.not_mem_nil, or_false] at hq; rcases hq with rfl | rfl | rfl | rfl | rfl <;> rfl) ?_; intro w1_ hw1_; simp only [List.toList_toArray, World.setCells, Nat.zero_add, Nat.reduceAdd] at hw1_; subst hw1_) | ((with_reducible refine gate_dst (N := 2) rfl ?_); refine box_event ?hg (N := 2) ?hd (cs := #[.bool a0_0, .int .i64 a0_1, .bool a0_2, .int .i64 a0_3, .slice A0_4 l0_4.length c0_4]) (t := 24) ?hr ?_; (case hd => rfl); (case hg => rfl); (case hr => first | (go_simp; done) | (go_simp; rfl)); intro gb105 hg w13 hbox hb; have n0_ := Aside0.mk (below_step (by repeat (first | (with_reducible first | exact HB.out | apply below_alloc | apply pw_below_drewN | apply below_drew1) | exact HB.out)) hb); have n1_ := Aside0.mk (hbox); have n2_ := Aside0.mk ((by rw [hg]; exact (below_size (by repeat (first | (with_reducible first | exact HB.out | apply below_alloc | apply pw_below_drewN | apply below_drew1) | exact HB.out))) : w.heap.size ≤ gb105)); have n3_ := Aside0.mk ((by rw [hg]; exact (below_size (by repeat (first | (with_reducible first | exact HB.out | apply below_alloc | apply pw_below_drewN | apply below_drew1) | exact HB.out))) : w.heap.size ≤ gb105)); clear HB; have HB := n0_; have BK105 := n1_; have GW105 := n2_; have GE105 := n3_; clear n0_ n1_ n2_ n3_; clear hb hbox hg) | ((with_reducible refine gate_dst (N := 3) rfl ?_); refine box_event ?hg (N := 3) ?hd (cs := #[.bool a1_0, .int .i64 a1_1, .bool a1_2, .int .i64 a1_3, .slice A1_4 l1_4.length c1_4]) (t := 24) ?hr ?_; (case hd => rfl); (case hg => rfl); (case hr => first | (go_simp; done) | (go_simp; rfl)); intro gb106 hg w14 hbox hb; have n0_ := Aside0.mk (blk_below (g := gb105) (o := .cells #[.bool a0_0, .int .i64 a0_1, .bool a0_2, .int .i64 a0_3, .slice A0_4 l0_4.length c0_4] 24 (0, 0)) (by (with_reducible repeat (first | refine blk_drewN ?_ _ | refine blk_drew ?_ | refine blk_alloc ?_ _)); exact BK105.out) hb); have n1_ := Aside0.mk (below_step (by repeat (first | (with_reducible first | exact HB.out | apply below_alloc | apply pw_below_drewN | apply below_drew1 | refine below_set ?_ GE105.out) | exact HB.out)) hb); have n2_ := Aside0.mk (hbox); have n3_ := Aside0.mk ((by rw [hg]; exact (below_size (by repeat (first | (with_reducible first | exact HB.out | apply below_alloc | apply pw_below_drewN | apply below_drew1 | refine below_set ?_ GE105.out) | exact HB.out))) : w.heap.size ≤ gb106)); have n4_ := Aside0.mk ((by rw [hg]; exact (below_size (by repeat (first | (with_reducible first | exact HB.out | apply below_alloc | apply pw_below_drewN | apply below_drew1 | refine below_set ?_ GE105.out) | exact HB.out))) : w.heap.size ≤ gb106)); have n5_ := Aside0.mk ((by rw [hg]; exact Nat.ne_of_lt (blk_lt (g := gb105) (o := .cells #[.bool a0_0, .int .i64 a0_1, .bool a0_2, .int .i64 a0_3, .slice A0_4 l0_4.length c0_4] 24 (0, 0)) (by (with_reducible repeat (first | refine blk_drewN ?_ _ | refine blk_drew ?_ | refine blk_alloc ?_ _)); exact BK105.out)) : gb105 ≠ gb106)); have n6_ := Aside0.mk ((by rw [hg]; exact Nat.ne_of_gt (blk_lt (g := gb105) (o := .cells #[.bool a0_0, .int .i64 a0_1, .bool a0_2, .int .i64 a0_3, .slice A0_4 l0_4.length c0_4] 24 (0, 0)) (by (with_reducible repeat (first | refine blk_drewN ?_ _ | refine blk_drew ?_ | refine blk_alloc ?_ _)); exact BK105.out)) : gb106 ≠ gb105)); clear BK105; clear HB; have BK105 := n0_; have HB := n1_; have BK106 := n2_; have GW106 := n3_; have GE106 := n4_; have NB105_106 := n5_; have NB106_105 := n6_; clear n0_ n1_ n2_ n3_ n4_ n5_ n6_; clear hb hbox hg; have hnb15 := NB105_106.out; have hnc15 := NB106_105.out; have hcz16_0 : w14.cell? ⟨gb105, 0, none⟩ = some (.bool a0_0) := (blk_cell BK105.out 0).trans rfl; have hcz16_1 : w14.cell? ⟨gb105, 1, none⟩ = some (.int .i64 a0_1) := (blk_cell BK105.out 1).trans rfl; have hcz16_2 : w14.cell? ⟨gb105, 2, none⟩ = some (.bool a0_2) := (blk_cell BK105.out 2).trans rfl; have hcz16_3 : w14.cell? ⟨gb105, 3, none⟩ = some (.int .i64 a0_3) := (blk_cell BK105.out 3).trans rfl; have hcz16_4 : w14.cell? ⟨gb105, 4, none⟩ = some (.slice A0_4 l0_4.length c0_4) := (blk_cell BK105.out 4).trans rfl; have hfz16_0 := blk_frozen BK105.out 0; have hfz16_1 := blk_frozen BK105.out 1; have hfz16_2 := blk_frozen BK105.out 2; have hfz16_3 := blk_frozen BK105.out 3; have hfz16_4 := blk_frozen BK105.out 4; have hcz17_0 : w14.cell? ⟨gb106, 0, none⟩ = some (.bool a1_0) := (blk_cell BK106.out 0).trans rfl; have hcz17_1 : w14.cell? ⟨gb106, 1, none⟩ = some (.int .i64 a1_1) := (blk_cell BK106.out 1).trans rfl; have hcz17_2 : w14.cell? ⟨gb106, 2, none⟩ = some (.bool a1_2) := (blk_cell BK106.out 2).trans rfl; have hcz17_3 : w14.cell? ⟨gb106, 3, none⟩ = some (.int .i64 a1_3) := (blk_cell BK106.out 3).trans rfl; have hcz17_4 : w14.cell? ⟨gb106, 4, none⟩ = some (.slice A1_4 l1_4.length c1_4) := (blk_cell BK106.out 4).trans rfl; have hfz17_0 := blk_frozen BK106.out 0; have hfz17_1 := blk_frozen BK106.out 1; have hfz17_2 := blk_frozen BK106.out 2; have hfz17_3 := blk_frozen BK106.out 3; have hfz17_4 := blk_frozen BK106.out 4))
          go_ret
          exact ⟨by first | rfl | (simp [errW_none, errW_some] <;> rfl) | (simp [*, errW_none, errW_some] <;> rfl), by repeat (first | (with_reducible first | exact HB.out | apply below_alloc | apply pw_below_drewN | apply below_drew1 | refine below_set ?_ GE105.out | refine below_set ?_ GE106.out) | exact HB.out)⟩
      · rw [if_neg c5] at H
        have c5b0 : (a0_2 == a1_2) = false := by simpa using c5
        (try (have c5b1 : decide (a0_2 = a1_2) = false := by simpa using c5))
        (try (have c5b2 : (a0_2 == a1_2) = false := by simpa using c5))
        (try (have c5b3 : ¬ (a0_2 = a1_2) := by simpa using c5))
        clear c5
        obtain rfl := Option.some.inj H
        go_enter Try.func15, Try.ntmps15
        go_wp2_with (first | ((with_reducible refine gate_store (t := 24) (p := 3) rfl ?_); refine HW.store_box rfl rfl 24 _ _ rfl rfl rfl BK106.out rfl (by kernel_rfl) (by intro q hq; simp only [List.mem_cons, List.not_mem_nil, or_false] at hq; rcases hq with rfl | rfl | rfl | rfl | rfl <;> rfl) ?_; intro w1_ hw1_; simp only [List.toList_toArray, World.setCells, Nat.zero_add, Nat.reduceAdd] at hw1_; subst hw1_) | ((with_reducible refine gate_store (t := 24) (p := 2) rfl ?_); refine HW.store_box rfl rfl 24 _ _ rfl rfl rfl BK105.out rfl (by kernel_rfl) (by intro q hq; simp only [List.mem_cons, List.not_mem_nil, or_false] at hq; rcases hq with rfl | rfl | rfl | rfl | rfl <;> rfl) ?_; intro w1_ hw1_; simp only [List.toList_toArray, World.setCells, Nat.zero_add, Nat.reduceAdd] at hw1_; subst hw1_) | ((with_reducible refine gate_dst (N := 2) rfl ?_); refine box_event ?hg (N := 2) ?hd (cs := #[.bool a0_0, .int .i64 a0_1, .bool a0_2, .int .i64 a0_3, .slice A0_4 l0_4.length c0_4]) (t := 24) ?hr ?_; (case hd => rfl); (case hg => rfl); (case hr => first | (go_simp; done) | (go_simp; rfl)); intro gb105 hg w18 hbox hb; have n0_ := Aside0.mk (below_step (by repeat (first | (with_reducible first | exact HB.out | apply below_alloc | apply pw_below_drewN | apply below_drew1) | exact HB.out)) hb); have n1_ := Aside0.mk (hbox); have n2_ := Aside0.mk ((by rw [hg]; exact (below_size (by repeat (first | (with_reducible first | exact HB.out | apply below_alloc | apply pw_below_drewN | apply below_drew1) | exact HB.out))) : w.heap.size ≤ gb105)); have n3_ := Aside0.mk ((by rw [hg]; exact (below_size (by repeat (first | (with_reducible first | exact HB.out | apply below_alloc | apply pw_below_drewN | apply below_drew1) | exact HB.out))) : w.heap.size ≤ gb105)); clear HB; have HB := n0_; have BK105 := n1_; have GW105 := n2_; have GE105 := n3_; clear n0_ n1_ n2_ n3_; clear hb hbox hg) | ((with_reducible refine gate_dst (N := 3) rfl ?_); refine box_event ?hg (N := 3) ?hd (cs := #[.bool a1_0, .int .i64 a1_1, .bool a1_2, .int .i64 a1_3, .slice A1_4 l1_4.length c1_4]) (t := 24) ?hr ?_; (case hd => rfl); (case hg => rfl); (case hr => first | (go_simp; done) | (go_simp; rfl)); intro gb106 hg w19 hbox hb; have n0_ := Aside0.mk (blk_below (g := gb105) (o := .cells #[.bool a0_0, .int .i64 a0_1, .bool a0_2, .int .i64 a0_3, .slice A0_4 l0_4.length c0_4] 24 (0, 0)) (by (with_reducible repeat (first | refine blk_drewN ?_ _ | refine blk_drew ?_ | refine blk_alloc ?_ _)); exact BK105.out) hb); have n1_ := Aside0.mk (below_step (by repeat (first | (with_reducible first | exact HB.out | apply below_alloc | apply pw_below_drewN | apply below_drew1 | refine below_set ?_ GE105.out) | exact HB.out)) hb); have n2_ := Aside0.mk (hbox); have n3_ := Aside0.mk ((by rw [hg]; exact (below_size (by repeat (first | (with_reducible first | exact HB.out | apply below_alloc | apply pw_below_drewN | apply below_drew1 | refine below_set ?_ GE105.out) | exact HB.out))) : w.heap.size ≤ gb106)); have n4_ := Aside0.mk ((by rw [hg]; exact (below_size (by repeat (first | (with_reducible first | exact HB.out | apply below_alloc | apply pw_below_drewN | apply below_drew1 | refine below_set ?_ GE105.out) | exact HB.out))) : w.heap.size ≤ gb106)); have n5_ := Aside0.mk ((by rw [hg]; exact Nat.ne_of_lt (blk_lt (g := gb105) (o := .cells #[.bool a0_0, .int .i64 a0_1, .bool a0_2, .int .i64 a0_3, .slice A0_4 l0_4.length c0_4] 24 (0, 0)) (by (with_reducible repeat (first | refine blk_drewN ?_ _ | refine blk_drew ?_ | refine blk_alloc ?_ _)); exact BK105.out)) : gb105 ≠ gb106)); have n6_ := Aside0.mk ((by rw [hg]; exact Nat.ne_of_gt (blk_lt (g := gb105) (o := .cells #[.bool a0_0, .int .i64 a0_1, .bool a0_2, .int .i64 a0_3, .slice A0_4 l0_4.length c0_4] 24 (0, 0)) (by (with_reducible repeat (first | refine blk_drewN ?_ _ | refine blk_drew ?_ | refine blk_alloc ?_ _)); exact BK105.out)) : gb106 ≠ gb105)); clear BK105; clear HB; have BK105 := n0_; have HB := n1_; have BK106 := n2_; have GW106 := n3_; have GE106 := n4_; have NB105_106 := n5_; have NB106_105 := n6_; clear n0_ n1_ n2_ n3_ n4_ n5_ n6_; clear hb hbox hg; have hnb20 := NB105_106.out; have hnc20 := NB106_105.out; have hcz21_0 : w19.cell? ⟨gb105, 0, none⟩ = some (.bool a0_0) := (blk_cell BK105.out 0).trans rfl; have hcz21_1 : w19.cell? ⟨gb105, 1, none⟩ = some (.int .i64 a0_1) := (blk_cell BK105.out 1).trans rfl; have hcz21_2 : w19.cell? ⟨gb105, 2, none⟩ = some (.bool a0_2) := (blk_cell BK105.out 2).trans rfl; have hcz21_3 : w19.cell? ⟨gb105, 3, none⟩ = some (.int .i64 a0_3) := (blk_cell BK105.out 3).trans rfl; have hcz21_4 : w19.cell? ⟨gb105, 4, none⟩ = some (.slice A0_4 l0_4.length c0_4) := (blk_cell BK105.out 4).trans rfl; have hfz21_0 := blk_frozen BK105.out 0; have hfz21_1 := blk_frozen BK105.out 1; have hfz21_2 := blk_frozen BK105.out 2; have hfz21_3 := blk_frozen BK105.out 3; have hfz21_4 := blk_frozen BK105.out 4; have hcz22_0 : w19.cell? ⟨gb106, 0, none⟩ = some (.bool a1_0) := (blk_cell BK106.out 0).trans rfl; have hcz22_1 : w19.cell? ⟨gb106, 1, none⟩ = some (.int .i64 a1_1) := (blk_cell BK106.out 1).trans rfl; have hcz22_2 : w19.cell? ⟨gb106, 2, none⟩ = some (.bool a1_2) := (blk_cell BK106.out 2).trans rfl; have hcz22_3 : w19.cell? ⟨gb106, 3, none⟩ = some (.int .i64 a1_3) := (blk_cell BK106.out 3).trans rfl; have hcz22_4 : w19.cell? ⟨gb106, 4, none⟩ = some (.slice A1_4 l1_4.length c1_4) := (blk_cell BK106.out 4).trans rfl; have hfz22_0 := blk_frozen BK106.out 0; have hfz22_1 := blk_frozen BK106.out 1; have hfz22_2 := blk_frozen BK106.out 2; have hfz22_3 := blk_frozen BK106.out 3; have hfz22_4 := blk_frozen BK106.out 4))
        go_ret
        exact ⟨by first | rfl | (simp [errW_none, errW_some] <;> rfl) | (simp [*, errW_none, errW_some] <;> rfl), by repeat (first | (with_reducible first | exact HB.out | apply below_alloc | apply pw_below_drewN | apply below_drew1 | refine below_set ?_ GE105.out | refine below_set ?_ GE106.out) | exact HB.out)⟩
    · rw [if_neg c4] at H
      have c4b0 : (a0_1 == a1_1) = false := beq_eq_false_iff_ne.mpr c4
      have c4b1 : (a0_1 != a1_1) = true := bne_iff_ne.mpr c4
      obtain rfl := Option.some.inj H
      go_enter Try.func15, Try.ntmps15
      go_wp2_with (first | ((with_reducible refine gate_store (t := 24) (p := 3) rfl ?_); refine HW.store_box rfl rfl 24 _ _ rfl rfl rfl BK106.out rfl (by kernel_rfl) (by intro q hq; simp only [List.mem_cons, List.not_mem_nil, or_false] at hq; rcases hq with rfl | rfl | rfl | rfl | rfl <;> rfl) ?_; intro w1_ hw1_; simp only [List.toList_toArray, World.setCells, Nat.zero_add, Nat.reduceAdd] at hw1_; subst hw1_) | ((with_reducible refine gate_store (t := 24) (p := 2) rfl ?_); refine HW.store_box rfl rfl 24 _ _ rfl rfl rfl BK105.out rfl (by kernel_rfl) (by intro q hq; simp only [List.mem_cons, List.not_mem_nil, or_false] at hq; rcases hq with rfl | rfl | rfl | rfl | rfl <;> rfl) ?_; intro w1_ hw1_; simp only [List.toList_toArray, World.setCells, Nat.zero_add, Nat.reduceAdd] at hw1_; subst hw1_) | ((with_reducible refine gate_dst (N := 2) rfl ?_); refine box_event ?hg (N := 2) ?hd (cs := #[.bool a0_0, .int .i64 a0_1, .bool a0_2, .int .i64 a0_3, .slice A0_4 l0_4.length c0_4]) (t := 24) ?hr ?_; (case hd => rfl); (case hg => rfl); (case hr => first | (go_simp; done) | (go_simp; rfl)); intro gb105 hg w23 hbox hb; have n0_ := Aside0.mk (below_step (by repeat (first | (with_reducible first | exact HB.out | apply below_alloc | apply pw_below_drewN | apply below_drew1) | exact HB.out)) hb); have n1_ := Aside0.mk (hbox); have n2_ := Aside0.mk ((by rw [hg]; exact (below_size (by repeat (first | (with_reducible first | exact HB.out | apply below_alloc | apply pw_below_drewN | apply below_drew1) | exact HB.out))) : w.heap.size ≤ gb105)); have n3_ := Aside0.mk ((by rw [hg]; exact (below_size (by repeat (first | (with_reducible first | exact HB.out | apply below_alloc | apply pw_below_drewN | apply below_drew1) | exact HB.out))) : w.heap.size ≤ gb105)); clear HB; have HB := n0_; have BK105 := n1_; have GW105 := n2_; have GE105 := n3_; clear n0_ n1_ n2_ n3_; clear hb hbox hg) | ((with_reducible refine gate_dst (N := 3) rfl ?_); refine box_event ?hg (N := 3) ?hd (cs := #[.bool a1_0, .int .i64 a1_1, .bool a1_2, .int .i64 a1_3, .slice A1_4 l1_4.length c1_4]) (t := 24) ?hr ?_; (case hd => rfl); (case hg => rfl); (case hr => first | (go_simp; done) | (go_simp; rfl)); intro gb106 hg w24 hbox hb; have n0_ := Aside0.mk (blk_below (g := gb105) (o := .cells #[.bool a0_0, .int .i64 a0_1, .bool a0_2, .int .i64 a0_3, .slice A0_4 l0_4.length c0_4] 24 (0, 0)) (by (with_reducible repeat (first | refine blk_drewN ?_ _ | refine blk_drew ?_ | refine blk_alloc ?_ _)); exact BK105.out) hb); have n1_ := Aside0.mk (below_step (by repeat (first | (with_reducible first | exact HB.out | apply below_alloc | apply pw_below_drewN | apply below_drew1 | refine below_set ?_ GE105.out) | exact HB.out)) hb); have n2_ := Aside0.mk (hbox); have n3_ := Aside0.mk ((by rw [hg]; exact (below_size (by repeat (first | (with_reducible first | exact HB.out | apply below_alloc | apply pw_below_drewN | apply below_drew1 | refine below_set ?_ GE105.out) | exact HB.out))) : w.heap.size ≤ gb106)); have n4_ := Aside0.mk ((by rw [hg]; exact (below_size (by repeat (first | (with_reducible first | exact HB.out | apply below_alloc | apply pw_below_drewN | apply below_drew1 | refine below_set ?_ GE105.out) | exact HB.out))) : w.heap.size ≤ gb106)); have n5_ := Aside0.mk ((by rw [hg]; exact Nat.ne_of_lt (blk_lt (g := gb105) (o := .cells #[.bool a0_0, .int .i64 a0_1, .bool a0_2, .int .i64 a0_3, .slice A0_4 l0_4.length c0_4] 24 (0, 0)) (by (with_reducible repeat (first | refine blk_drewN ?_ _ | refine blk_drew ?_ | refine blk_alloc ?_ _)); exact BK105.out)) : gb105 ≠ gb106)); have n6_ := Aside0.mk ((by rw [hg]; exact Nat.ne_of_gt (blk_lt (g := gb105) (o := .cells #[.bool a0_0, .int .i64 a0_1, .bool a0_2, .int .i64 a0_3, .slice A0_4 l0_4.length c0_4] 24 (0, 0)) (by (with_reducible repeat (first | refine blk_drewN ?_ _ | refine blk_drew ?_ | refine blk_alloc ?_ _)); exact BK105.out)) : gb106 ≠ gb105)); clear BK105; clear HB; have BK105 := n0_; have HB := n1_; have BK106 := n2_; have GW106 := n3_; have GE106 := n4_; have NB105_106 := n5_; have NB106_105 := n6_; clear n0_ n1_ n2_ n3_ n4_ n5_ n6_; clear hb hbox hg; have hnb25 := NB105_106.out; have hnc25 := NB106_105.out; have hcz26_0 : w24.cell? ⟨gb105, 0, none⟩ = some (.bool a0_0) := (blk_cell BK105.out 0).trans rfl; have hcz26_1 : w24.cell? ⟨gb105, 1, none⟩ = some (.int .i64 a0_1) := (blk_cell BK105.out 1).trans rfl; have hcz26_2 : w24.cell? ⟨gb105, 2, none⟩ = some (.bool a0_2) := (blk_cell BK105.out 2).trans rfl; have hcz26_3 : w24.cell? ⟨gb105, 3, none⟩ = some (.int .i64 a0_3) := (blk_cell BK105.out 3).trans rfl; have hcz26_4 : w24.cell? ⟨gb105, 4, none⟩ = some (.slice A0_4 l0_4.length c0_4) := (blk_cell BK105.out 4).trans rfl; have hfz26_0 := blk_frozen BK105.out 0; have hfz26_1 := blk_frozen BK105.out 1; have hfz26_2 := blk_frozen BK105.out 2; have hfz26_3 := blk_frozen BK105.out 3; have hfz26_4 := blk_frozen BK105.out 4; have hcz27_0 : w24.cell? ⟨gb106, 0, none⟩ = some (.bool a1_0) := (blk_cell BK106.out 0).trans rfl; have hcz27_1 : w24.cell? ⟨gb106, 1, none⟩ = some (.int .i64 a1_1) := (blk_cell BK106.out 1).trans rfl; have hcz27_2 : w24.cell? ⟨gb106, 2, none⟩ = some (.bool a1_2) := (blk_cell BK106.out 2).trans rfl; have hcz27_3 : w24.cell? ⟨gb106, 3, none⟩ = some (.int .i64 a1_3) := (blk_cell BK106.out 3).trans rfl; have hcz27_4 : w24.cell? ⟨gb106, 4, none⟩ = some (.slice A1_4 l1_4.length c1_4) := (blk_cell BK106.out 4).trans rfl; have hfz27_0 := blk_frozen BK106.out 0; have hfz27_1 := blk_frozen BK106.out 1; have hfz27_2 := blk_frozen BK106.out 2; have hfz27_3 := blk_frozen BK106.out 3; have hfz27_4 := blk_frozen BK106.out 4))
      go_ret
      exact ⟨by first | rfl | (simp [errW_none, errW_some] <;> rfl) | (simp [*, errW_none, errW_some] <;> rfl), by repeat (first | (with_reducible first | exact HB.out | apply below_alloc | apply pw_below_drewN | apply below_drew1 | refine below_set ?_ GE105.out | refine below_set ?_ GE106.out) | exact HB.out)⟩
  · rw [if_neg c3] at H
    have c3b0 : (a0_0 == a1_0) = false := by simpa using c3
    (try (have c3b1 : decide (a0_0 = a1_0) = false := by simpa using c3))
    (try (have c3b2 : (a0_0 == a1_0) = false := by simpa using c3))
    (try (have c3b3 : ¬ (a0_0 = a1_0) := by simpa using c3))
    clear c3
    obtain rfl := Option.some.inj H
    go_enter Try.func15, Try.ntmps15
    go_wp2_with (first | ((with_reducible refine gate_store (t := 24) (p := 3) rfl ?_); refine HW.store_box rfl rfl 24 _ _ rfl rfl rfl BK106.out rfl (by kernel_rfl) (by intro q hq; simp only [List.mem_cons, List.not_mem_nil, or_false] at hq; rcases hq with rfl | rfl | rfl | rfl | rfl <;> rfl) ?_; intro w1_ hw1_; simp only [List.toList_toArray, World.setCells, Nat.zero_add, Nat.reduceAdd] at hw1_; subst hw1_) | ((with_reducible refine gate_store (t := 24) (p := 2) rfl ?_); refine HW.store_box rfl rfl 24 _ _ rfl rfl rfl BK105.out rfl (by kernel_rfl) (by intro q hq; simp only [List.mem_cons, List.not_mem_nil, or_false] at hq; rcases hq with rfl | rfl | rfl | rfl | rfl <;> rfl) ?_; intro w1_ hw1_; simp only [List.toList_toArray, World.setCells, Nat.zero_add, Nat.reduceAdd] at hw1_; subst hw1_) | ((with_reducible refine gate_dst (N := 2) rfl ?_); refine box_event ?hg (N := 2) ?hd (cs := #[.bool a0_0, .int .i64 a0_1, .bool a0_2, .int .i64 a0_3, .slice A0_4 l0_4.length c0_4]) (t := 24) ?hr ?_; (case hd => rfl); (case hg => rfl); (case hr => first | (go_simp; done) | (go_simp; rfl)); intro gb105 hg w28 hbox hb; have n0_ := Aside0.mk (below_step (by repeat (first | (with_reducible first | exact HB.out | apply below_alloc | apply pw_below_drewN | apply below_drew1) | exact HB.out)) hb); have n1_ := Aside0.mk (hbox); have n2_ := Aside0.mk ((by rw [hg]; exact (below_size (by repeat (first | (with_reducible first | exact HB.out | apply below_alloc | apply pw_below_drewN | apply below_drew1) | exact HB.out))) : w.heap.size ≤ gb105)); have n3_ := Aside0.mk ((by rw [hg]; exact (below_size (by repeat (first | (with_reducible first | exact HB.out | apply below_alloc | apply pw_below_drewN | apply below_drew1) | exact HB.out))) : w.heap.size ≤ gb105)); clear HB; have HB := n0_; have BK105 := n1_; have GW105 := n2_; have GE105 := n3_; clear n0_ n1_ n2_ n3_; clear hb hbox hg) | ((with_reducible refine gate_dst (N := 3) rfl ?_); refine box_event ?hg (N := 3) ?hd (cs := #[.bool a1_0, .int .i64 a1_1, .bool a1_2, .int .i64 a1_3, .slice A1_4 l1_4.length c1_4]) (t := 24) ?hr ?_; (case hd => rfl); (case hg => rfl); (case hr => first | (go_simp; done) | (go_simp; rfl)); intro gb106 hg w29 hbox hb; have n0_ := Aside0.mk (blk_below (g := gb105) (o := .cells #[.bool a0_0, .int .i64 a0_1, .bool a0_2, .int .i64 a0_3, .slice A0_4 l0_4.length c0_4] 24 (0, 0)) (by (with_reducible repeat (first | refine blk_drewN ?_ _ | refine blk_drew ?_ | refine blk_alloc ?_ _)); exact BK105.out) hb); have n1_ := Aside0.mk (below_step (by repeat (first | (with_reducible first | exact HB.out | apply below_alloc | apply pw_below_drewN | apply below_drew1 | refine below_set ?_ GE105.out) | exact HB.out)) hb); have n2_ := Aside0.mk (hbox); have n3_ := Aside0.mk ((by rw [hg]; exact (below_size (by repeat (first | (with_reducible first | exact HB.out | apply below_alloc | apply pw_below_drewN | apply below_drew1 | refine below_set ?_ GE105.out) | exact HB.out))) : w.heap.size ≤ gb106)); have n4_ := Aside0.mk ((by rw [hg]; exact (below_size (by repeat (first | (with_reducible first | exact HB.out | apply below_alloc | apply pw_below_drewN | apply below_drew1 | refine below_set ?_ GE105.out) | exact HB.out))) : w.heap.size ≤ gb106)); have n5_ := Aside0.mk ((by rw [hg]; exact Nat.ne_of_lt (blk_lt (g := gb105) (o := .cells #[.bool a0_0, .int .i64 a0_1, .bool a0_2, .int .i64 a0_3, .slice A0_4 l0_4.length c0_4] 24 (0, 0)) (by (with_reducible repeat (first | refine blk_drewN ?_ _ | refine blk_drew ?_ | refine blk_alloc ?_ _)); exact BK105.out)) : gb105 ≠ gb106)); have n6_ := Aside0.mk ((by rw [hg]; exact Nat.ne_of_gt (blk_lt (g := gb105) (o := .cells #[.bool a0_0, .int .i64 a0_1, .bool a0_2, .int .i64 a0_3, .slice A0_4 l0_4.length c0_4] 24 (0, 0)) (by (with_reducible repeat (first | refine blk_drewN ?_ _ | refine blk_drew ?_ | refine blk_alloc ?_ _)); exact BK105.out)) : gb106 ≠ gb105)); clear BK105; clear HB; have BK105 := n0_; have HB := n1_; have BK106 := n2_; have GW106 := n3_; have GE106 := n4_; have NB105_106 := n5_; have NB106_105 := n6_; clear n0_ n1_ n2_ n3_ n4_ n5_ n6_; clear hb hbox hg; have hnb30 := NB105_106.out; have hnc30 := NB106_105.out; have hcz31_0 : w29.cell? ⟨gb105, 0, none⟩ = some (.bool a0_0) := (blk_cell BK105.out 0).trans rfl; have hcz31_1 : w29.cell? ⟨gb105, 1, none⟩ = some (.int .i64 a0_1) := (blk_cell BK105.out 1).trans rfl; have hcz31_2 : w29.cell? ⟨gb105, 2, none⟩ = some (.bool a0_2) := (blk_cell BK105.out 2).trans rfl; have hcz31_3 : w29.cell? ⟨gb105, 3, none⟩ = some (.int .i64 a0_3) := (blk_cell BK105.out 3).trans rfl; have hcz31_4 : w29.cell? ⟨gb105, 4, none⟩ = some (.slice A0_4 l0_4.length c0_4) := (blk_cell BK105.out 4).trans rfl; have hfz31_0 := blk_frozen BK105.out 0; have hfz31_1 := blk_frozen BK105.out 1; have hfz31_2 := blk_frozen BK105.out 2; have hfz31_3 := blk_frozen BK105.out 3; have hfz31_4 := blk_frozen BK105.out 4; have hcz32_0 : w29.cell? ⟨gb106, 0, none⟩ = some (.bool a1_0) := (blk_cell BK106.out 0).trans rfl; have hcz32_1 : w29.cell? ⟨gb106, 1, none⟩ = some (.int .i64 a1_1) := (blk_cell BK106.out 1).trans rfl; have hcz32_2 : w29.cell? ⟨gb106, 2, none⟩ = some (.bool a1_2) := (blk_cell BK106.out 2).trans rfl; have hcz32_3 : w29.cell? ⟨gb106, 3, none⟩ = some (.int .i64 a1_3) := (blk_cell BK106.out 3).trans rfl; have hcz32_4 : w29.cell? ⟨gb106, 4, none⟩ = some (.slice A1_4 l1_4.length c1_4) := (blk_cell BK106.out 4).trans rfl; have hfz32_0 := blk_frozen BK106.out 0; have hfz32_1 := blk_frozen BK106.out 1; have hfz32_2 := blk_frozen BK106.out 2; have hfz32_3 := blk_frozen BK106.out 3; have hfz32_4 := blk_frozen BK106.out 4))
    go_ret
    exact ⟨by first | rfl | (simp [errW_none, errW_some] <;> rfl) | (simp [*, errW_none, errW_some] <;> rfl), by repeat (first | (with_reducible first | exact HB.out | apply below_alloc | apply pw_below_drewN | apply below_drew1 | refine below_set ?_ GE105.out | refine below_set ?_ GE106.out) | exact HB.out)⟩

/-! ### phaetonref01_Same: function 16 -/
def phaetonref01_Same.l0 : Nat → List Int → List Int → Int → Option (Bool)
  | 0, _, _, _ => none
  | k + 1, x0, x1, x5 => if x5 < (x0.length : Int) then (if 0 ≤ x5 then (if x5 < (x1.length : Int) then (if (rd x0 x5) = (rd x1 x5) then (phaetonref01_Same.l0 k x0 x1 (wrap64 (x5 + 1))) else (some false)) else (none)) else (none)) else (some true)
def phaetonref01_Same.f (k : Nat) (l0 : List Int) (l1 : List Int) : Option (Bool) := if (l0.length : Int) = (l1.length : Int) then (phaetonref01_Same.l0 k l0 l1 0) else (some false)
theorem phaetonref01_Same.mono_l : ∀ k, (∀ y0 y1 y2, LeO (phaetonref01_Same.l0 k y0 y1 y2) (phaetonref01_Same.l0 (k + 1) y0 y1 y2))
  | 0 => fun _ _ _ r h => by simp [phaetonref01_Same.l0] at h
  | k + 1 => by
    have ih0 := phaetonref01_Same.mono_l k
    · intro y0 y1 y2
      unfold phaetonref01_Same.l0
      repeat' first
      | (with_reducible exact ih0 _ _ _)
      | (with_reducible exact LeO.refl _)
      | (with_reducible exact LeO.none _)
      | (with_reducible refine LeO.ite ?_ ?_)
      | (with_reducible refine LeO.bind ?_ (fun _ => ?_))
      | exact ih0 _ _ _
      | exact LeO.none _
      | refine LeO.ite ?_ ?_
      | refine LeO.bind ?_ (fun _ => ?_)
theorem phaetonref01_Same.mono : ∀ a0 a1 k, LeO (phaetonref01_Same.f k a0 a1) (phaetonref01_Same.f (k + 1) a0 a1) := by
  intro a0 a1 k
  have ih0 := phaetonref01_Same.mono_l k
  unfold phaetonref01_Same.f
  repeat' first
      | (with_reducible exact ih0 _ _ _)
      | (with_reducible exact LeO.refl _)
      | (with_reducible exact LeO.none _)
      | (with_reducible refine LeO.ite ?_ ?_)
      | (with_reducible refine LeO.bind ?_ (fun _ => ?_))
      | exact ih0 _ _ _
      | exact LeO.none _
      | refine LeO.ite ?_ ?_
      | refine LeO.bind ?_ (fun _ => ?_)
set_option maxHeartbeats 8000000 in
set_option maxRecDepth 100000 in
theorem phaetonref01_Same.calls (k : Nat) (A0 : Option Addr) (c0 : Nat) (l0 : List Int) (A1 : Option Addr) (c1 : Nat) (l1 : List Int) (r : Bool) (w : World) (hr0 : Kd.C (Kd.int .i64) w A0 l0.length l0) (hc0 : l0.length ≤ c0) (hr1 : Kd.C (Kd.int .i64) w A1 l1.length l1) (hc1 : l1.length ≤ c1) (h : phaetonref01_Same.f k l0 l1 = some r) :
    Calls Try.prog 16 #[.slice A0 l0.length c0, .slice A1 l1.length c1] w fun e w' => e = .returned (.bool r) ∧ Drawn0 w w' := by
  have HR0 := Aside0.mk hr0
  have HC0 := Aside0.mk hc0
  clear hr0 hc0
  have HR1 := Aside0.mk hr1
  have HC1 := Aside0.mk hc1
  clear hr1 hc1
  have H : (if (l0.length : Int) = (l1.length : Int) then (phaetonref01_Same.l0 k l0 l1 0) else (some false)) = some r := h
  clear h
  by_cases c3 : (l0.length : Int) = (l1.length : Int)
  · rw [if_pos c3] at H
    have c3b0 : ((l0.length : Int) == (l1.length : Int)) = true := beq_iff_eq.mpr c3
    have c3b1 : ((l0.length : Int) != (l1.length : Int)) = false := bne_eq_false_iff_eq.mpr c3
    have c3b2 : (l0.length == l1.length) = true := by first | simpa using c3 | (simp at c3 ⊢; omega)
    clear c3
    have H' := Aside0.mk H
    clear H
    go_enter Try.func16, Try.ntmps16
    go_wp2
    repeat (go_quiet (fail); try go_wp2)
    go_loopg [5] k (fun kq v5 w' => ∃ (x5_1 : Int), v5 = .int .i64 x5_1 ∧ Aside0 (phaetonref01_Same.l0 kq l0 l1 x5_1 = some r) ∧ Aside0 (kq ≤ k) ∧ Drawn0 w w')
    case atStart => exact ⟨(0), (by first | rfl | (simp; done) | (simp [*]; done)), H', ⟨Nat.le_refl _⟩, by repeat (first | exact Drawn0.refl _ | apply Drawn0.step)⟩
    case round =>
      clear H'
      try clear c1
      try clear p2
      try clear c3
      try clear c3b0
      try clear c3b1
      try clear c3b2
      obtain ⟨x5_1, rfl, HA, HK1, ⟨m1, rfl⟩⟩ := hrel
      cases gk with
      | zero => exact absurd HA.out (by simp [phaetonref01_Same.l0])
      | succ k1 =>
        have H := HA.out
        clear HA
        simp only [phaetonref01_Same.l0] at H
        by_cases c4 : x5_1 < (l0.length : Int)
        · rw [if_pos c4] at H
          have c4b0 : decide (x5_1 < (l0.length : Int)) = true := decide_eq_true c4
          clear c4
          by_cases c5 : 0 ≤ x5_1
          · rw [if_pos c5] at H
            have c5b0 : decide (0 ≤ x5_1) = true := decide_eq_true c5
            clear c5
            by_cases c6 : x5_1 < (l1.length : Int)
            · rw [if_pos c6] at H
              have c6b0 : decide (x5_1 < (l1.length : Int)) = true := decide_eq_true c6
              clear c6
              by_cases c7 : (rd l0 x5_1) = (rd l1 x5_1)
              · rw [if_pos c7] at H
                have c7b0 : ((rd l0 x5_1) == (rd l1 x5_1)) = true := beq_iff_eq.mpr c7
                have c7b1 : ((rd l0 x5_1) != (rd l1 x5_1)) = false := bne_eq_false_iff_eq.mpr c7
                clear c7
                have H' := Aside0.mk H
                clear H
                have p108 : 0 ≤ (x5_1 : Int) := of_decide_eq_true (by first | (with_reducible assumption) | assumption)
                have q108 : x5_1 < (l0.length : Int) := of_decide_eq_true (by first | (with_reducible assumption) | assumption)
                obtain ⟨ad108, e108, hx108_0⟩ := Kd.at_int HR0.out x5_1 p108 q108
                cases e108
                replace p108 := eq_true p108
                replace q108 := eq_true q108
                have p109 : 0 ≤ (x5_1 : Int) := of_decide_eq_true (by first | (with_reducible assumption) | assumption)
                have q109 : x5_1 < (l1.length : Int) := of_decide_eq_true (by first | (with_reducible assumption) | assumption)
                obtain ⟨ad109, e109, hx109_0⟩ := Kd.at_int HR1.out x5_1 p109 q109
                cases e109
                replace p109 := eq_true p109
                replace q109 := eq_true q109
                go_wp2
                repeat (go_quiet (fail); try go_wp2)
                go_roundg k1
                case measure => have := HK1.out; omega
                case rel => exact ⟨(wrap64 (x5_1 + 1)), (by first | rfl | (simp; done) | (simp [*]; done)), H', ⟨by have := HK1.out; omega⟩, by repeat (first | exact Drawn0.refl _ | apply Drawn0.step)⟩
              · rw [if_neg c7] at H
                have c7b0 : ((rd l0 x5_1) == (rd l1 x5_1)) = false := beq_eq_false_iff_ne.mpr c7
                have c7b1 : ((rd l0 x5_1) != (rd l1 x5_1)) = true := bne_iff_ne.mpr c7
                obtain rfl := Option.some.inj H
                have p108 : 0 ≤ (x5_1 : Int) := of_decide_eq_true (by first | (with_reducible assumption) | assumption)
                have q108 : x5_1 < (l0.length : Int) := of_decide_eq_true (by first | (with_reducible assumption) | assumption)
                obtain ⟨ad108, e108, hx108_0⟩ := Kd.at_int HR0.out x5_1 p108 q108
                cases e108
                replace p108 := eq_true p108
                replace q108 := eq_true q108
                have p109 : 0 ≤ (x5_1 : Int) := of_decide_eq_true (by first | (with_reducible assumption) | assumption)
                have q109 : x5_1 < (l1.length : Int) := of_decide_eq_true (by first | (with_reducible assumption) | assumption)
                obtain ⟨ad109, e109, hx109_0⟩ := Kd.at_int HR1.out x5_1 p109 q109
                cases e109
                replace p109 := eq_true p109
                replace q109 := eq_true q109
                go_wp2
                repeat (go_quiet (fail); try go_wp2)
                go_ret
                exact ⟨by first | rfl | (simp; done) | (simp [*]; done), by repeat (first | exact Drawn0.refl _ | apply Drawn0.step)⟩
            · rw [if_neg c6] at H
              exact absurd H (by simp)
          · rw [if_neg c5] at H
            exact absurd H (by simp)
        · rw [if_neg c4] at H
          have c4b0 : decide (x5_1 < (l0.length : Int)) = false := decide_eq_false c4
          clear c4
          obtain rfl := Option.some.inj H
          go_wp2
          repeat (go_quiet (fail); try go_wp2)
          go_ret
          exact ⟨by first | rfl | (simp; done) | (simp [*]; done), by repeat (first | exact Drawn0.refl _ | apply Drawn0.step)⟩
  · rw [if_neg c3] at H
    have c3b0 : ((l0.length : Int) == (l1.length : Int)) = false := beq_eq_false_iff_ne.mpr c3
    have c3b1 : ((l0.length : Int) != (l1.length : Int)) = true := bne_iff_ne.mpr c3
    have c3b2 : (l0.length == l1.length) = false := by first | simpa using c3 | (simp at c3 ⊢; omega)
    obtain rfl := Option.some.inj H
    go_enter Try.func16, Try.ntmps16
    go_wp2
    repeat (go_quiet (fail); try go_wp2)
    go_ret
    exact ⟨by first | rfl | (simp; done) | (simp [*]; done), by repeat (first | exact Drawn0.refl _ | apply Drawn0.step)⟩

/-! ### bits_shifts: helper -/
theorem bits_prefix_snoc (xs pre : List Int) (x : Int) (h : pre <+: xs) (hx : xs[pre.length]? = some x) : (pre ++ [x]) <+: xs := by
  obtain ⟨r, rfl⟩ := h
  cases r with
  | nil => simp at hx
  | cons y r =>
    have : y = x := by simpa using hx
    subst this
    exact ⟨r, by simp⟩
section
attribute [local go_sem] Oper.semAt_some
set_option maxRecDepth 100000 in
set_option maxHeartbeats 1000000 in
theorem bits_shifts1 (d l Nb Mb : Nat) (n : Int) (m : Nat) (hm : m ≤ 62) (Kp : World → World → Prop) (hKp : ∀ A B, Kp A B → ∀ t v, Boxed A Nb t v → Boxed B Nb t v) (J Jx : List Int → World → Prop)
    (hY : ∀ pre x W, J pre W → pre.length < m → YieldAt Fence.wide (d - 1) Try.prog l #[.int .i64 x] W fun e W' =>
      (e = .returned (.bool true) ∧ J (pre ++ [x]) W' ∧ Kp W W') ∨ (e = .returned (.bool false) ∧ Jx (pre ++ [x]) W'))
    (W : World) (hN : Boxed W Nb 3 (.int .i64 n)) (hM : Boxed W Mb 3 (.int .i64 m)) (h0 : J [] W) :
    CallsIn Fence.wide d Try.prog 46 #[.func (.yield l) #[] #[], .pointer (some ⟨Mb, 0, none⟩), .pointer (some ⟨Nb, 0, none⟩)] W fun e W' => (∃ v, e = .returned v) ∧
      ((∃ ys, ys = H.bitsOf n m ∧ J ys W') ∨ (∃ pre, pre <+: H.bitsOf n m ∧ Jx pre W')) := by
  have hcM := hM.cell
  refine callsIn_of_wp Try.func46 rfl trivial ?_ rfl
  simp only [Try.ntmps46, List.size_toArray, List.length_cons, List.length_nil, Nat.reduceAdd, Nat.reduceSub, Array.replicate_succ, Array.replicate_zero, List.push_toArray, List.append_toArray, List.nil_append, List.cons_append]
  gi_wp2
  gi_loopw [4] (fun v wr => ∃ (pre : List Int), pre <+: H.bitsOf n m ∧ v = .int .i64 ((m : Int) - 1 - pre.length) ∧ Aside0 (Boxed wr Nb 3 (.int .i64 n)) ∧ J pre wr)
    (fun v wr => (intOf v + 1).toNat)
  case atStart => exact ⟨[], List.nil_prefix, by simp, ⟨hN⟩, h0⟩
  case round =>
    obtain ⟨pre, hp, rfl, HN, hJ⟩ := hrel
    have hlen := hp.length_le
    rw [H.bitsOf_length] at hlen
    have hcN := HN.out.cell
    by_cases hlt : pre.length < m
    · have hb0 : 0 ≤ (m : Int) - 1 - pre.length := by omega
      have hb1 : (m : Int) - 1 - pre.length ≤ 62 := by omega
      have HE := Aside0.mk (show ((m : Int) - 1 - (pre.length : Int)) = ((m - 1 - pre.length : Nat) : Int) by omega)
      have hx := H.bitsOf_get n m pre.length hlt
      have HX := Aside0.mk hx
      clear hx
      obtain ⟨fn, tmps, assign, body, hy, hR⟩ := hY pre (n / 2 ^ (m - 1 - pre.length) % 2) wr hJ hlt
      rw [HE.out]
      gi_wp2_with fail
      rw [H.and_one, hy, Oper.uponIn_round]
      refine ⟨fun h => by simp [Fence.wide] at h, hR.mono ?_⟩
      rintro e W3 (⟨rfl, hJ3, hk3⟩ | ⟨rfl, hJx3⟩)
      · gi_wp2
        go_roundw
        case rel => exact ⟨pre ++ [n / 2 ^ (m - 1 - pre.length) % 2], bits_prefix_snoc _ _ _ hp HX.out, by simp only [List.length_append, List.length_singleton]; go_num, ⟨hKp _ _ hk3 _ _ HN.out⟩, hJ3⟩
        case measure => first | (simp [intOf]; done) | (simp [intOf]; omega)
      · gi_wp2
        refine bodyPost_ret (results_none rfl _ _ _) rfl ?_
        exact ⟨⟨_, rfl⟩, .inr ⟨_, bits_prefix_snoc _ _ _ hp HX.out, hJx3⟩⟩
    · have hge : (m : Int) - 1 - pre.length < 0 := by omega
      gi_wp2
      go_end0
      refine ⟨⟨_, rfl⟩, .inl ⟨pre, hp.eq_of_length ?_, hJ⟩⟩
      rw [H.bitsOf_length]; omega
set_option maxHeartbeats 1000000 in
theorem bits_shifts_calls (n m : Int) (w : World) : Calls Try.prog 41 #[.int .i64 n, .int .i64 m] w fun e w' => e = .returned (.func (.func 46) #[] #[.pointer (some ⟨w.heap.size + 1, 0, none⟩), .pointer (some ⟨w.heap.size, 0, none⟩)]) ∧ w' = (w.alloc (.cells #[.int .i64 n] 3)).alloc (.cells #[.int .i64 m] 3) := by
  have hmf : ∀ (fn : Fn) (first cap : Array Value) (w : World), (Instr.makeFunc fn first cap).run Try.prog w = .ok (.func fn first cap) w := fun _ _ _ _ => rfl
  go_enter Try.func41, Try.ntmps41
  go_wp2
  go_ret
  exact ⟨rfl, rfl⟩
/-- 'out = append(out, ..)', out in a box B below the row's blocks (from base on): what the walk owes behind it. -/
theorem bits_appended {W w1 : World} {n₀ base B : Nat} {t e : TypeId} {size : Nat} {v v' : Value} {k m : Nat} {xs ys : List Value} {tmp : Obj}
    (hv : Boxed W B t v) (hrow : W.ownsRow base e size v k xs) (hn₀ : n₀ ≤ W.heap.size) (hB : n₀ ≤ B) (hBb : B < base)
    (hown' : w1.ownsRow base e size v' m ys) (hgrow : (W.alloc tmp).grownBy w1 v.ownBlock) :
    Boxed w1 B t v ∧ Boxed (w1.setCell ⟨B, 0, none⟩ v') B t v' ∧ (w1.setCell ⟨B, 0, none⟩ v').ownsRow base e size v' m ys ∧ KeepsOthers W (w1.setCell ⟨B, 0, none⟩ v') ∧ Below n₀ W (w1.setCell ⟨B, 0, none⟩ v') ∧
    (∀ Nb t' u, Nb < base → Nb ≠ B → Boxed W Nb t' u → Boxed (w1.setCell ⟨B, 0, none⟩ v') Nb t' u) ∧ W.heap.size ≤ (w1.setCell ⟨B, 0, none⟩ v').heap.size := by
  have hnr : some B ≠ v.ownBlock := fun he => by have := own_base hrow B he.symm; omega
  have hnr' : some B ≠ v'.ownBlock := fun he => by have := own_base hown' B he.symm; omega
  have hv1 : Boxed w1 B t v := (hv.alloc tmp).kept hgrow hnr
  have hsz : W.heap.size ≤ w1.heap.size := Nat.le_trans (by simp) hgrow.size
  refine ⟨hv1, hv1.set v', hown'.kept (grownBy_setCell' w1 B v') (.inr hnr'.symm), ?_, ?_, ?_, Nat.le_trans hsz (by simp [World.setCell])⟩
  · refine ((KeepsOthers.alloc W tmp).trans (KeepsOthers.of_grownBy hgrow fun j o ej hj => ?_)).trans (KeepsOthers.setCell _ _ _)
    rcases (hrow.alloc tmp).2 with ⟨rfl, _⟩ | ⟨g, cap, cur, rfl, _, hgb, _⟩
    · simp [Value.ownBlock] at ej
    · obtain rfl : g = j := by simpa [Value.ownBlock] using ej
      rw [hgb] at hj; cases hj; rfl
  · refine (((Below.refl n₀ W).alloc hn₀ tmp).grown hgrow (by simp; omega) fun j ej => ?_).setCell (p := ⟨B, 0, none⟩) hB v'
    have := own_base hrow j ej
    omega
  · intro Nb t' u hNb hne h
    have h1 : Boxed w1 Nb t' u := (h.alloc tmp).kept hgrow (fun he => by have := own_base hrow Nb he.symm; omega)
    exact h1.kept (grownBy_setCell' w1 B v') (fun he => hne (by simpa using he))
/-- The same where the slice stays in its block. -/
theorem bits_appended' {W w1 : World} {n₀ base B g len cap m : Nat} {t e : TypeId} {size : Nat} {k : Nat} {xs ys : List Value} {tmp : Obj}
    (hv : Boxed W B t (.slice (some ⟨g, 0, none⟩) len cap)) (hrow : W.ownsRow base e size (.slice (some ⟨g, 0, none⟩) len cap) k xs) (hn₀ : n₀ ≤ W.heap.size) (hB : n₀ ≤ B) (hg : n₀ ≤ g) (hgB : g ≠ B)
    (hown' : w1.ownsRow base e size (.slice (some ⟨g, 0, none⟩) m cap) m ys) (hgrow : (W.alloc tmp).grownBy w1 (some g)) :
    Boxed w1 B t (.slice (some ⟨g, 0, none⟩) len cap) ∧ Boxed (w1.setCell ⟨B, 0, none⟩ (.slice (some ⟨g, 0, none⟩) m cap)) B t (.slice (some ⟨g, 0, none⟩) m cap) ∧ (w1.setCell ⟨B, 0, none⟩ (.slice (some ⟨g, 0, none⟩) m cap)).ownsRow base e size (.slice (some ⟨g, 0, none⟩) m cap) m ys ∧
    KeepsOthers W (w1.setCell ⟨B, 0, none⟩ (.slice (some ⟨g, 0, none⟩) m cap)) ∧ Below n₀ W (w1.setCell ⟨B, 0, none⟩ (.slice (some ⟨g, 0, none⟩) m cap)) ∧
    (∀ Nb t' u, Nb ≠ g → Nb ≠ B → Boxed W Nb t' u → Boxed (w1.setCell ⟨B, 0, none⟩ (.slice (some ⟨g, 0, none⟩) m cap)) Nb t' u) ∧ W.heap.size ≤ (w1.setCell ⟨B, 0, none⟩ (.slice (some ⟨g, 0, none⟩) m cap)).heap.size := by
  have hv1 : Boxed w1 B t (.slice (some ⟨g, 0, none⟩) len cap) := (hv.alloc tmp).kept hgrow (fun he => hgB (by simpa using he.symm))
  have hsz : W.heap.size ≤ w1.heap.size := Nat.le_trans (by simp) hgrow.size
  refine ⟨hv1, hv1.set _, hown'.kept (grownBy_setCell' w1 B _) (.inr (by simp [Value.ownBlock]; exact hgB)), ?_, ?_, ?_, Nat.le_trans hsz (by simp [World.setCell])⟩
  · refine ((KeepsOthers.alloc W tmp).trans (KeepsOthers.of_grownBy hgrow fun j o ej hj => ?_)).trans (KeepsOthers.setCell _ _ _)
    rcases (hrow.alloc tmp).2 with ⟨he, _⟩ | ⟨g', cap, cur, he, _, hgb, _⟩
    · cases he
    · cases he
      cases ej
      rw [hgb] at hj; cases hj; rfl
  · refine (((Below.refl n₀ W).alloc hn₀ tmp).grown hgrow (by simp; omega) fun j ej => ?_).setCell (p := ⟨B, 0, none⟩) hB _
    cases ej; exact hg
  · intro Nb t' u hNb hne h
    have h1 : Boxed w1 Nb t' u := (h.alloc tmp).kept hgrow (fun he => hNb (by simpa using he))
    exact h1.kept (grownBy_setCell' w1 B _) (fun he => hne (by simpa using he))
theorem bits_own_size (n : Nat) : Own (fun (_ : List Int) W => n ≤ W.heap.size) := fun _ _ _ _ hs hg _ => Nat.le_trans hs hg.size
/-- The iterator's contract: all of a number's bits, or, where a round has said 'no more', a beginning of them. -/
theorem bits_stops (d Nb Mb : Nat) (n : Int) (m : Nat) (hm : m ≤ 62) (Kp : World → World → Prop) (hKp : ∀ A B, Kp A B → ∀ t v, Boxed A Nb t v → Boxed B Nb t v) (w : World) (hN : Boxed w Nb 3 (.int .i64 n)) (hM : Boxed w Mb 3 (.int .i64 m)) :
    SeqStopsK Fence.wide d Try.prog 46 #[.pointer (some ⟨Mb, 0, none⟩), .pointer (some ⟨Nb, 0, none⟩)] (fun x : Int => #[Value.int .i64 x]) Kp (fun ys => ys = H.bitsOf n m) (fun pre => pre <+: H.bitsOf n m) m w := fun l J Jx W hW _ _ hY h0 =>
  bits_shifts1 d l Nb Mb n m hm Kp hKp J Jx hY W ((hW.block _ hN.lt).trans hN) ((hW.block _ hM.lt).trans hM) h0
end

/-! ### bits_Put: function 38 -/
def bits_Put.f (a0 a1 : Int) : Option (List Int × Bool) := some (H.putB a0 a1)
section
attribute [local go_sem] Oper.semAt_some
theorem bits_Put_no (a0 a1 : Int) (w : World) (h : a1 < 0 ∨ 32 < a1 ∨ (0 ≤ a1 ∧ a1 ≤ 32 ∧ a0 / 2 ^ a1.toNat ≠ 0)) :
    Calls Try.prog 38 #[.int .i64 a0, .int .i64 a1] w fun e w' => e = .returned (.tuple #[.slice none 0 0, .bool false]) ∧ Below w.heap.size w w' := by
  rcases h with h | h | ⟨h1, h2, h3⟩
  · have hb : decide (a1 < 0) = true := decide_eq_true h
    go_enter Try.func38, Try.ntmps38
    go_wp2
    go_ret2
    exact ⟨rfl, Below.refl _ _⟩
  · have hb : decide (a1 < 0) = false := decide_eq_false (by omega)
    have hc : decide (32 < a1) = true := decide_eq_true h
    go_enter Try.func38, Try.ntmps38
    go_wp2
    go_ret2
    exact ⟨rfl, Below.refl _ _⟩
  · obtain ⟨m, rfl⟩ := Int.eq_ofNat_of_zero_le h1
    have hb : decide ((m : Int) < 0) = false := decide_eq_false (by omega)
    have hc : decide (32 < (m : Int)) = false := decide_eq_false (by omega)
    rw [Int.toNat_natCast] at h3
    have hd : (a0 / 2 ^ m != 0) = true := bne_iff_ne.mpr h3
    clear h3
    go_enter Try.func38, Try.ntmps38
    go_wp2
    go_ret2
    exact ⟨rfl, Below.refl _ _⟩
set_option maxRecDepth 100000 in
set_option maxHeartbeats 2000000 in
theorem bits_Put_yes (a0 : Int) (m : Nat) (w : World) (h2 : m ≤ 32) (h3 : a0 / 2 ^ m = 0) :
    Calls Try.prog 38 #[.int .i64 a0, .int .i64 m] w fun e w' => ∃ v0_ : Value, e = .returned (.tuple #[v0_, .bool true]) ∧ Kd.R (Kd.int .i64) 3 w' w.heap.size (fun _ => True) v0_ (H.bitsOf a0 m) ∧ Below w.heap.size w w' := by
  have hb : decide ((m : Int) < 0) = false := decide_eq_false (by omega)
  have hc : decide (32 < (m : Int)) = false := decide_eq_false (by omega)
  have hd : (a0 / 2 ^ m != 0) = false := bne_eq_false_iff_eq.mpr h3
  have H3 := Aside0.mk h3
  clear h3
  obtain ⟨i0, hi, hz0, hz1, hz2⟩ := info_parts info3
  have hf1 : Fence.wide.fn 41 := trivial
  have hf2 : Fence.wide.fn 46 := trivial
  refine (callsIn_wide (n := 5)).1 ?_
  refine callsIn_of_wp_marks Try.func38 rfl trivial ?_ rfl
  simp only [Try.ntmps38, List.size_toArray, List.length_cons, List.length_nil, Nat.reduceAdd, Nat.reduceSub, Array.replicate_succ, Array.replicate_zero, List.push_toArray, List.append_toArray, List.nil_append, List.cons_append]
  gi_wp2_with (gi_at_call 41; refine (callsIn_wide.2 (bits_shifts_calls _ _ _)).mono ?_; rintro e w' ⟨rfl, rfl⟩)
  have bO := Boxed.new w 25 (.slice none 0 0)
  have bN := Boxed.new (w.alloc (.cells #[.slice none 0 0] 25)) 3 (.int .i64 a0)
  have bM := Boxed.new ((w.alloc (.cells #[.slice none 0 0] 25)).alloc (.cells #[.int .i64 a0] 3)) 3 (.int .i64 m)
  simp only [World.size_alloc] at bN bM
  have hB0 : Below w.heap.size w (((w.alloc (.cells #[.slice none 0 0] 25)).alloc (.cells #[.int .i64 a0] 3)).alloc (.cells #[.int .i64 m] 3)) := (((Below.refl _ w).alloc (Nat.le_refl _) _).alloc (by simp) _).alloc (by simp; omega) _
  refine wpIn_rangeFunc_ownG rfl (by omega) (gf := 46) (lb := #[.pointer (some ⟨w.heap.size + 1 + 1, 0, none⟩), .pointer (some ⟨w.heap.size + 1, 0, none⟩)]) rfl trivial (enters_of Try.func46 (by kernel_rfl) rfl)
    (bits_stops _ (w.heap.size + 1) (w.heap.size + 1 + 1) a0 m (by omega) (fun A B => ∀ t v, Boxed A (w.heap.size + 1) t v → Boxed B (w.heap.size + 1) t v) (fun A B h => h) _ (bN.alloc _) bM)
    (fun h k t v hv => k t v (h t v hv)) (fun W l o o' hl ho hc _ t v hv => hv.kept (grownBy_putObj' W l o') (fun he => by cases he; rw [show W.heap[_]? = _ from hv] at ho; cases ho; cases hc)) (Below.refl _ _) (fun _ => rfl)
    (fun pre W => (∃ v, Boxed W w.heap.size 25 v ∧ W.ownsRow (w.heap.size + 3) 3 1 v pre.length (encs (Value.int .i64) pre) ∧ True) ∧ w.heap.size + 3 ≤ W.heap.size ∧ Below w.heap.size w W)
    (fun _ _ _ => False)
    (OwnFrom.and (Own.from (holdsRow_own (w.heap.size + 3) w.heap.size 25 3 1 (fun pre => pre.length) (fun pre => encs (Value.int .i64) pre) (fun _ _ => True)) _) (OwnFrom.and (Own.from (bits_own_size (w.heap.size + 3)) _) (ownFrom_below (Nat.le_refl _) (by simp; omega))))
    (fun _ _ _ _ _ hs _ _ => hs)
    ⟨⟨_, (bO.alloc _).alloc _, World.ownsRow_nil _ _ _ _, trivial⟩, by simp, hB0⟩
    (fun x => { tmps := #[.int .i64 a0, .int .i64 m, undef, undef, .slice none 0 0, .bool false, .pointer (some ⟨w.heap.size, 0, none⟩), .int .i64 x, .int .i64 m, .bool false, .bool false, .int .i64 m, .bool false, .bool false, .bool false, .int .i64 a0, .int .i64 m, .int .i64 (a0 / 2 ^ m), .bool false, .bool false, .int .i64 a0, .int .i64 m, .func (.func 46) #[] #[.pointer (some ⟨w.heap.size + 1 + 1, 0, none⟩), .pointer (some ⟨w.heap.size + 1, 0, none⟩)], .int .i64 x, undef, undef, undef, undef, undef], defers := [] }) ?assign ?body ?done ?stop
  case assign =>
    intro l x W K hK
    gi_wp2
    exact hK
  case body =>
    rintro l pre x W ⟨⟨v, hv, hrow, _⟩, hW3, hB⟩ hlt
    have hc := hv.cell
    have s1 : pre.length + 1 ≤ maxLen := by simp only [maxLen]; omega
    have s2 : (pre.length + 1) * 8 ≤ 140737488355328 := by omega
    have s3 : w.heap.size + 3 ≤ (W.alloc (.cells #[.int .i64 x] 3)).heap.size := by simp; omega
    gi_wp2_with (gi_at_builtin; refine wpListIn_append_own _ rfl _ _ 25 rfl (w.heap.size + 3) 3 i0 (.int .i64 0) 1 8 Try.underlying25 hi hz0 hz1 hz2 rfl (by decide) _ _ _ rfl (hrow.alloc _) ⟨W.heap.size, 0, none⟩ 1 1 [.int .i64 x] rfl rfl (cell_one_new _ _ _) (by simp [Value.oneCell']) s1 s2 s3 ?_; intro v' w1 hown' hgrow _; obtain ⟨g', cap', rfl⟩ := ownsRow_succ hown'; obtain ⟨hv1, hv2, hr2, hk2, hb2, hx2, hz2⟩ := bits_appended hv hrow hB.size (Nat.le_refl _) (by omega) hown' hgrow; have hc1 := hv1.cell; have hf1 := hv1.frozen)
    exact ⟨hk2.from _, fun t u hu => hx2 _ t u (by omega) (by omega) hu, ⟨_, hv2, by simpa [encs] using hr2, trivial⟩, Nat.le_trans hW3 hz2, hB.trans hb2⟩
  case done =>
    rintro D ys W hD rfl ⟨⟨v, hv, hrow, _⟩, hW3, hB⟩ hK
    have hc := hv.cell
    gi_wp2
    refine ⟨by simp, .inl ⟨_, _, rfl, run_takeDeferred hK, ?_⟩⟩
    exact ⟨_, results_tmp2 rfl _ _ _, v, rfl, Kd.R_of_own (own_weaken (ownsRow_putObj hrow _ hK rfl) (by omega)) (fun _ _ => trivial), hB.trans (belowK_b (w := w) (Nat.le_refl _) W D _ _ (by simp at hD; omega) hK rfl rfl)⟩
  case stop =>
    rintro D c pre W _ _ h _
    exact h.elim
end
theorem bits_Put.calls (a0 a1 : Int) (r1 : List Int) (r2 : Bool) (w : World) (h : bits_Put.f a0 a1 = some (r1, r2)) :
    Calls Try.prog 38 #[.int .i64 a0, .int .i64 a1] w fun e w' => ∃ v0_ : Value, e = .returned (.tuple #[v0_, .bool r2]) ∧ Kd.R (Kd.int .i64) 3 w' w.heap.size (fun _ => True) v0_ r1 ∧ Below w.heap.size w w' := by
  have h' : H.putB a0 a1 = (r1, r2) := Option.some.inj h
  have no : ∀ (_ : a1 < 0 ∨ 32 < a1 ∨ (0 ≤ a1 ∧ a1 ≤ 32 ∧ a0 / 2 ^ a1.toNat ≠ 0)), ([], false) = (r1, r2) → Calls Try.prog 38 #[.int .i64 a0, .int .i64 a1] w fun e w' => ∃ v0_ : Value, e = .returned (.tuple #[v0_, .bool r2]) ∧ Kd.R (Kd.int .i64) 3 w' w.heap.size (fun _ => True) v0_ r1 ∧ Below w.heap.size w w' := by
    intro hn he
    injection he with e1 e2
    subst e1 e2
    exact (bits_Put_no a0 a1 w hn).mono fun e w' ⟨h1, h2⟩ => ⟨_, h1, Kd.R_nil _ _ _ _ _, h2⟩
  unfold H.putB at h'
  by_cases c1 : a1 < 0
  · rw [if_pos c1] at h'; exact no (.inl c1) h'
  rw [if_neg c1] at h'
  by_cases c2 : 32 < a1
  · rw [if_pos c2] at h'; exact no (.inr (.inl c2)) h'
  rw [if_neg c2] at h'
  by_cases c3 : a0 / 2 ^ a1.toNat = 0
  · rw [if_pos c3] at h'
    injection h' with e1 e2
    subst e1 e2
    obtain ⟨m, rfl⟩ := Int.eq_ofNat_of_zero_le (show 0 ≤ a1 by omega)
    exact bits_Put_yes a0 m w (by omega) c3
  · rw [if_neg c3] at h'
    exact no (.inr (.inr ⟨by omega, by omega, c3⟩)) h'

/-! ### frame_row_put: helper -/
/-- A row of bits that is written: its variable's block, the row of the call's own. -/
def frame_RowAt (w : World) (g B : Nat) (xs : List Int) : Prop := B ≤ g ∧ ∃ v, w.heap[g]? = some (.cells #[v] 44 (0, 0)) ∧ Kd.R (Kd.int .i64) 3 w B (fun _ => True) v xs
/-- Beside it, and beside rows of numbers, every block is as it was. -/
def frame_Kept (w w' : World) (g : Nat) : Prop := w.heap.size ≤ w'.heap.size ∧ ∀ i cs t fr, w.heap[i]? = some (.cells cs t fr) → i ≠ g → t ≠ 3 → w'.heap[i]? = some (.cells cs t fr)
theorem frame_Kept.trans {w w1 w2 : World} {g : Nat} (h : frame_Kept w w1 g) (k : frame_Kept w1 w2 g) : frame_Kept w w2 g := ⟨Nat.le_trans h.1 k.1, fun i cs t fr hi hg ht => k.2 i cs t fr (h.2 i cs t fr hi hg ht) hg ht⟩
theorem frame_Kept.refl (w : World) (g : Nat) : frame_Kept w w g := ⟨Nat.le_refl _, fun _ _ _ _ h _ _ => h⟩
theorem frame_Kept.below {w w' : World} {g : Nat} (h : Below w.heap.size w w') : frame_Kept w w' g := ⟨h.size, fun i cs t fr hi _ _ => (h.block i (blk_lt hi)).trans hi⟩
theorem frame_RowAt.below {w w' : World} {g B : Nat} {xs : List Int} (h : frame_RowAt w g B xs) (hb : Below w.heap.size w w') : frame_RowAt w' g B xs := by
  obtain ⟨h0, v, h1, h2⟩ := h
  exact ⟨h0, v, blk_below h1 hb, Kd.R_below h2 hb⟩
theorem frame_putB_len (n m : Int) : (H.putB n m).1.length ≤ 32 := by
  unfold H.putB
  split
  · simp
  split
  · simp
  split
  · rw [H.bitsOf_length]; omega
  · simp
set_option maxHeartbeats 1600000 in
set_option maxRecDepth 100000 in
theorem frame_put (g B : Nat) (xs : List Int) (n m : Int) (w0 w : World) (hrow : frame_RowAt w g B xs) (hB : Below B w0 w) (hl : xs.length ≤ 1099511627776) :
    Calls Try.prog 28 #[.pointer (some ⟨g, 0, none⟩), .int .i64 n, .int .i64 m] w fun e w' => e = .returned (.tuple #[]) ∧ frame_RowAt w' g B (xs ++ (H.putB n m).1) ∧ Below B w0 w' ∧ frame_Kept w w' g := by
  obtain ⟨hBg, v, hblk, hR⟩ := hrow
  have HL := Aside0.mk hl
  have HBL := Aside0.mk hblk
  have HR := Aside0.mk hR
  have HB := Aside0.mk hB
  have hgw := blk_lt hblk
  have HG := Aside0.mk hgw
  have HBG := Aside0.mk hBg
  clear hl hblk hR hB hgw hBg
  go_enter Try.func28, Try.ntmps28
  go_wp2_with fail
  refine (bits_Put.calls n m (H.putB n m).1 (H.putB n m).2 _ rfl).mono ?_
  rintro e w1 ⟨v0, rfl, hR0, hb1⟩
  have hblk1 := blk_below HBL.out hb1
  have hR1 := Kd.R_below HR.out hb1
  have hlen := frame_putB_len n m
  have hsz1 := hb1.size
  have HLN := Aside0.mk hlen
  obtain ⟨A, c, rfl, hxc, hC⟩ := Kd.R_reads hR1
  obtain ⟨A0, c0, rfl, hyc, hC0⟩ := Kd.R_reads hR0
  have hcell : w1.cell? ⟨g, 0, none⟩ = some (.slice A xs.length c) := by rw [blk_cell hblk1]; rfl
  have hB1 : Below B w0 w1 := HB.out.trans (hb1.mono (Nat.le_trans HBG.out (Nat.le_of_lt HG.out)))
  have HB1 := Aside0.mk hB1
  have HK1 := Aside0.mk (frame_Kept.below (g := g) hb1)
  have HBL1 := Aside0.mk hblk1
  have HR1 := Aside0.mk hR1
  have HC0 := Aside0.mk hC0
  have HSZ := Aside0.mk (show B ≤ w1.heap.size by have := HBG.out; have := HG.out; omega)
  clear hblk1 hR1 hR0 hb1 hB1 hC hC0 hxc hyc hlen hsz1
  go_wp2_with (first | ((with_reducible refine gate_builtin (b := .append) (xs := #[.tmp 18, .tmp 19]) rfl ?_); at_builtin; refine Kd.R_append_rows (Kd.int .i64) (w0 := w0) B rfl (.tmp 18) (.tmp 19) 25 3 (.int .i64 0) 8 rfl Try.underlying25 info3 rfl (by decide) (by omega) _ xs (H.putB n m).1 _ _ _ (fun _ => True) (fun _ => False) rfl rfl HR1.out HC0.out (fun _ _ h => h) (fun _ h => h.elim) (fun _ _ => trivial) HB1.out HSZ.out (by have := HLN.out; have := HL.out; omega) ?_; intro v1 w2 ho2 hb2 hg2 hat2; obtain ⟨A1, c1, hv1⟩ := Kd.R_slice ho2; rw [List.length_append] at hv1; subst hv1; have hne : some g ≠ (Value.slice A xs.length c).ownBlock := Kd.R_ne HR1.out HBL1.out (by decide); have HNE := Aside0.mk hne; have hblk2 := blk_grown HBL1.out hg2 hne; have hfr := blk_frozen hblk2 0; have hc2 : w2.cell? ⟨g, 0, none⟩ = some (.slice A xs.length c) := (blk_cell hblk2 0).trans rfl; have HBL2 := Aside0.mk hblk2; have HO2 := Aside0.mk ho2; have HB2 := Aside0.mk hb2; have HG2 : Aside0 (w1.grownBy w2 (Value.slice A xs.length c).ownBlock) := ⟨hg2⟩; clear hne hblk2 ho2 hb2 hg2 hat2))
  go_end0
  have hb3 := blk_set HBL2.out 0 (.slice A1 (xs.length + (H.putB n m).1.length) c1)
  refine ⟨rfl, ⟨HBG.out, _, hb3, Kd.R_set HO2.out HBL2.out (by decide) 0 _⟩, HB2.out.setCell (p := ⟨g, 0, none⟩) HBG.out _, HK1.out.trans ⟨by have := HG2.out.size; simp only [World.setCell, Array.size_modify]; exact this, fun i cs t fr hi hig ht => ?_⟩⟩
  rw [Below.heap_setCell _ _ _ i hig, HG2.out.block i (blk_lt hi) (fun he => ?_), hi]
  obtain ⟨cells, hc⟩ := Kd.R_typed HR1.out i he.symm
  rw [hc] at hi
  injection hi with hi
  injection hi with _ h2 _
  exact ht h2.symm
set_option maxHeartbeats 1600000 in
set_option maxRecDepth 100000 in
theorem frame_flag (g B : Nat) (xs : List Int) (b : Bool) (w0 w : World) (hrow : frame_RowAt w g B xs) (hB : Below B w0 w) (hl : xs.length ≤ 1099511627776) :
    Calls Try.prog 39 #[.pointer (some ⟨g, 0, none⟩), .bool b] w fun e w' => e = .returned (.tuple #[]) ∧ frame_RowAt w' g B (xs ++ (H.putB (if b = true then 1 else 0) 1).1) ∧ Below B w0 w' ∧ frame_Kept w w' g := by
  have HR := Aside0.mk hrow
  have HB := Aside0.mk hB
  have HL := Aside0.mk hl
  clear hrow hB hl
  cases b with
  | true =>
    go_enter Try.func39, Try.ntmps39
    go_wp2_with fail
    refine (frame_put g B xs 1 1 w0 _ HR.out HB.out HL.out).mono ?_
    rintro e w1 ⟨rfl, h1, h2, h3⟩
    have H1 := Aside0.mk h1
    have H2 := Aside0.mk h2
    have H3 := Aside0.mk h3
    clear h1 h2 h3
    go_wp2_with fail
    go_end0
    exact ⟨rfl, H1.out, H2.out, H3.out⟩
  | false =>
    go_enter Try.func39, Try.ntmps39
    go_wp2_with fail
    refine (frame_put g B xs 0 1 w0 _ HR.out HB.out HL.out).mono ?_
    rintro e w1 ⟨rfl, h1, h2, h3⟩
    have H1 := Aside0.mk h1
    have H2 := Aside0.mk h2
    have H3 := Aside0.mk h3
    clear h1 h2 h3
    go_wp2_with fail
    go_end0
    exact ⟨rfl, H1.out, H2.out, H3.out⟩

-- NOT PRINTED: function 39 (frame_row_flag)

end Go.Proofs.Ytiphbgcmbbfpmaa.Px

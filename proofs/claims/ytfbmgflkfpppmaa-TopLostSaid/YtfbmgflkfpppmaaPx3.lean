-- Written by myprint.py, a program of this session's, over the kit's print.py; not a text of print.sh's own.
import Derived.Test.YtfbmgflkfpppmaaHandBox
import Derived.Test.YtfbmgflkfpppmaaPx0
import Derived.Test.YtfbmgflkfpppmaaPx1
import Derived.Test.YtfbmgflkfpppmaaPx2
namespace Go.Proofs.Ytfbmgflkfpppmaa.Px
open Go.RowKit Go.Proofs.YtfbmgflkfpppmaaW.PrintWords Go.Proofs.YtfbmgflkfpppmaaW.PrintLast Go.Proofs.YtfbmgflkfpppmaaW.PrintMore
attribute [local go_sem] max2_int min2_int max_two min_two max_three min_three max_four min_four   -- for this text's walks alone
set_option linter.unusedVariables false
set_option linter.unusedSimpArgs false

/-! ### phaetontop_head16: function 4 -/
section
set_option maxRecDepth 100000
set_option maxHeartbeats 1600000
set_option linter.unusedSimpArgs false
theorem hs_state49 (g : Nat) (w : World) (h0 : w.cell? ⟨g, 0, none⟩ = some (.int .i64 0)) (h1 : w.cell? ⟨g, 1, none⟩ = some (.int .i64 0)) : Calls Try.prog 49 #[.pointer (some ⟨g, 0, none⟩)] w fun e w' => e = .returned (.int .i64 1) ∧ ∃ m, w' = w.drewN m := by
  go_enter Try.func49, Try.ntmps49
  go_wp2
  go_quiet (fail)
  go_wp2
  go_ret
  exact ⟨rfl, _, rfl⟩
theorem hs_state49q (g : Nat) (w : World) (n : Nat) (h0 : w.cell? ⟨g, 0, none⟩ = some (.int .i64 0)) (h1 : w.cell? ⟨g, 1, none⟩ = some (.int .i64 0)) : Calls Try.prog 49 #[.pointer (some ⟨g, 0, none⟩)] (w.drewN n) fun e w'' => e = .returned (.int .i64 1) ∧ ∃ m, w'' = w.drewN m := by
  refine (hs_state49 g (w.drewN n) h0 h1).mono ?_
  rintro e w' ⟨rfl, m, rfl⟩
  exact ⟨rfl, n + m, World.drewN_drewN _ _ _⟩
theorem hs_count39 (w : World) : Calls Try.prog 39 #[.agg #[.int .i64 0, .int .i64 0, .int .i64 1, .int .i64 0]] w fun e w' => e = .returned (.bool true) ∧ Below w.heap.size w w' := by
  go_enter Try.func39, Try.ntmps39
  go_wp2
  have c0 : ((w.alloc (.cells #[.int .i64 0, .int .i64 0, .int .i64 1, .int .i64 0] 42)).alloc (.cells #[.int .i64 0, .int .i64 0, .int .i64 1, .int .i64 0] 106)).cell? ⟨w.heap.size + 1, 0, none⟩ = some (.int .i64 0) := by go_simp
  have c1 : ((w.alloc (.cells #[.int .i64 0, .int .i64 0, .int .i64 1, .int .i64 0] 42)).alloc (.cells #[.int .i64 0, .int .i64 0, .int .i64 1, .int .i64 0] 106)).cell? ⟨w.heap.size + 1, 1, none⟩ = some (.int .i64 0) := by go_simp
  go_quiet (first | (go_at_call 49; exact hs_state49q _ _ _ c0 c1))
  go_wp2
  go_ret
  exact ⟨rfl, by repeat (first | exact Below.refl _ _ | apply below_alloc | apply pw_below_drewN | apply below_drew1)⟩
theorem hs_clone21 (w : World) : Calls Try.prog 21 #[.slice none 0 0] w fun e w' => e = .returned (.slice none 0 0) ∧ w' = w := by
  have qE : ∀ (d : Nat) (w : World) (a : Option Addr) (n c : Nat), (Op.equalIn (d + 1) 40 (.slice a n c) (.slice none 0 0)).run Try.prog w = .ok a.isNone w := fun d w a n c => by
    cases a <;> simp [Op.equalIn, run_underlying Try.underlying40]
  have qT : ∀ (w : World) (a : Option Addr) (n c : Nat), (binOp .eql 40 (.slice a n c) (.slice none 0 0)).run Try.prog w = .ok (.bool a.isNone) w := fun w a n c => by
    simp only [binOp]
    simp [Op.equal, Op.maxDepth, qE 9999 w a n c]
  go_enter Try.func21, Try.ntmps21
  go_wp2
  go_ret
  exact ⟨rfl, rfl⟩
theorem hs_index46 (f : Value) (w : World) : Calls Try.prog 46 #[.slice none 0 0, f] w fun e w' => e = .returned (.int .i64 (-1)) ∧ w' = w := by
  go_enter Try.func46, Try.ntmps46
  go_wp2_with fail
  refine wp_loop_rounds 1 ?_
  rw [rounds_succ]
  go_wp2_with fail
  go_ret
  exact ⟨rfl, rfl⟩
theorem hs_index51 (f : Value) (w : World) : Calls Try.prog 51 #[.slice none 0 0, f] w fun e w' => e = .returned (.int .i64 (-1)) ∧ w' = w := by
  go_enter Try.func51, Try.ntmps51
  go_wp2_with fail
  refine wp_loop_rounds 1 ?_
  rw [rounds_succ]
  go_wp2_with fail
  go_ret
  exact ⟨rfl, rfl⟩
theorem hs_has36 (f : Value) (w : World) : Calls Try.prog 36 #[.slice none 0 0, f] w fun e w' => e = .returned (.bool false) ∧ w' = w := by
  go_enter Try.func36, Try.ntmps36
  go_wp2_with (first | (go_at_call 46; refine (hs_index46 _ _).mono ?_; rintro e w' ⟨rfl, rfl⟩))
  go_ret
  exact ⟨rfl, rfl⟩
theorem hs_has48 (f : Value) (w : World) : Calls Try.prog 48 #[.slice none 0 0, f] w fun e w' => e = .returned (.bool false) ∧ w' = w := by
  go_enter Try.func48, Try.ntmps48
  go_wp2_with (first | (go_at_call 51; refine (hs_index51 _ _).mono ?_; rintro e w' ⟨rfl, rfl⟩))
  go_ret
  exact ⟨rfl, rfl⟩
theorem hs_all19 (w : World) : Calls Try.prog 19 #[.slice none 0 0, .int .i64 8, .func (.func 20) #[] #[]] w fun e w' => e = .returned (.bool true) ∧ Below w.heap.size w w' := by
  go_enter Try.func19, Try.ntmps19
  go_wp2_with (first | (go_at_call 36; refine (hs_has36 _ _).mono ?_; rintro e w' ⟨rfl, rfl⟩))
  go_ret
  exact ⟨rfl, by repeat (first | exact Below.refl _ _ | apply below_alloc)⟩
theorem hs_all37 (m : Int) (hm : 0 ≤ m) (w : World) : Calls Try.prog 37 #[.slice none 0 0, .int .i64 m, .func (.func 38) #[] #[]] w fun e w' => e = .returned (.bool true) ∧ Below w.heap.size w w' := by
  go_enter Try.func37, Try.ntmps37
  go_wp2_with (first | (go_at_call 48; refine (hs_has48 _ _).mono ?_; rintro e w' ⟨rfl, rfl⟩))
  go_ret
  exact ⟨rfl, by repeat (first | exact Below.refl _ _ | apply below_alloc)⟩
theorem hs_desc {d? : Option TypeDesc} (h : d?.any (fun d => match d with | .struct _ => true | _ => false) = true) : ∃ fs, d? = some (.struct fs) := by
  cases d? with
  | none => cases h
  | some d => cases d <;> first | exact ⟨_, rfl⟩ | cases h
theorem hs_u44 : ∃ fs, Try.prog.underlying 44 = some (.struct fs) := hs_desc (by kernel_rfl)
theorem hs_u53 : ∃ fs, Try.prog.underlying 53 = some (.struct fs) := hs_desc (by kernel_rfl)
theorem hs_u55 : ∃ fs, Try.prog.underlying 55 = some (.struct fs) := hs_desc (by kernel_rfl)
theorem hs_u42 : ∃ fs, Try.prog.underlying 42 = some (.struct fs) := hs_desc (by kernel_rfl)
theorem hs_new22 (w : World) : Calls Try.prog 22 #[] w fun e w' => e = .returned (.agg #[.int .i64 0, .int .i64 0, .int .i64 1, .int .i64 0]) ∧ Below w.heap.size w w' := by
  obtain ⟨d42, u42⟩ := hs_u42
  go_enter Try.func22, Try.ntmps22
  go_wp2
  refine bodyPost_ret (results_cell_row rfl _ _ w.heap.size 42 _ (0, 0) _ rfl (blk_new w _) u42 rfl (by kernel_rfl)) rfl ?_
  exact ⟨rfl, below_alloc (Below.refl _ _) _⟩
theorem hs_node10 (w : World) : Calls Try.prog 10 #[.slice none 0 0] w fun e w' => e = .returned (.tuple #[.agg #[.slice none 0 0, .slice none 0 0, .int .i64 0, .int .i64 0, .int .i64 1, .int .i64 0, .slice none 0 0], .int .i64 0]) ∧ Below w.heap.size w w' := by
  obtain ⟨d44, u44⟩ := hs_u44
  go_enter Try.func10, Try.ntmps10
  go_wp2_with (first
    | (go_at_call 19; refine (hs_all19 _).mono ?_; rintro e w1 ⟨rfl, hb⟩; have K1 := Aside0.mk (blk_below (blk_new w _) hb); have B1 := Aside0.mk (below_step (below_alloc (Below.refl _ _) _) hb); clear hb)
    | (go_at_call 21; refine (hs_clone21 _).mono ?_; rintro e w2 ⟨rfl, rfl⟩)
    | (go_at_call 22; refine (hs_new22 _).mono ?_; rintro e w3 ⟨rfl, hb⟩; have K2 := Aside0.mk (blk_below K1.out hb); have B2 := Aside0.mk (below_step B1.out hb); clear hb K1 B1)
    | ((with_reducible refine gate_store (t := 44) (p := 2) rfl ?_); refine HW.store_box' rfl rfl 44 _ _ rfl rfl rfl K2.out rfl (by kernel_rfl) (by intro q hq; simp only [List.mem_cons, List.not_mem_nil, or_false] at hq; rcases hq with rfl | rfl | rfl | rfl | rfl | rfl | rfl <;> rfl) ?_; intro w5 hk hg; have K5 := Aside0.mk hk; have B5 := Aside0.mk (B2.out.grown hg (below_size B2.out) (fun k e => by cases e; exact Nat.le_refl _)); clear hk hg K2 B2))
  refine bodyPost_ret (results_ct rfl _ _ w.heap.size 44 _ (0, 0) _ rfl K5.out u44 rfl (by kernel_rfl)) rfl ?_
  exact ⟨rfl, B5.out⟩
theorem hs_right25 (w : World) : Calls Try.prog 25 #[.agg #[.slice none 0 0, .slice none 0 0, .int .i64 0, .int .i64 0, .int .i64 1, .int .i64 0, .slice none 0 0]] w fun e w' => e = .returned (.bool true) ∧ Below w.heap.size w w' := by
  go_enter Try.func25, Try.ntmps25
  have HK := Aside0.mk (blk_new w (.cells #[.slice none 0 0, .slice none 0 0, .int .i64 0, .int .i64 0, .int .i64 1, .int .i64 0, .slice none 0 0] 44))
  have HB := Aside0.mk (below_alloc (Below.refl w.heap.size w) (.cells #[.slice none 0 0, .slice none 0 0, .int .i64 0, .int .i64 0, .int .i64 1, .int .i64 0, .slice none 0 0] 44))
  go_wp2_with fail
  generalize w.alloc (.cells #[.slice none 0 0, .slice none 0 0, .int .i64 0, .int .i64 0, .int .i64 1, .int .i64 0, .slice none 0 0] 44) = w0 at HK HB ⊢
  have c0 := (blk_cell HK.out 0).trans rfl; have c1 := (blk_cell HK.out 1).trans rfl; have c2 := (blk_cell HK.out 2).trans rfl; have c3 := (blk_cell HK.out 3).trans rfl; have c4 := (blk_cell HK.out 4).trans rfl; have c5 := (blk_cell HK.out 5).trans rfl; have c6 := (blk_cell HK.out 6).trans rfl
  go_wp2_with (first
    | (go_at_call 37; refine (hs_all37 _ (by decide) _).mono ?_; rintro e w1 ⟨rfl, hb⟩; have n0 := Aside0.mk (blk_below HK.out hb); have n1 := Aside0.mk (below_step HB.out hb); clear HK HB hb c0 c1 c2 c3 c4 c5 c6; have HK := n0; have HB := n1; clear n0 n1; have c0 := (blk_cell HK.out 0).trans rfl; have c1 := (blk_cell HK.out 1).trans rfl; have c2 := (blk_cell HK.out 2).trans rfl; have c3 := (blk_cell HK.out 3).trans rfl; have c4 := (blk_cell HK.out 4).trans rfl; have c5 := (blk_cell HK.out 5).trans rfl; have c6 := (blk_cell HK.out 6).trans rfl)
    | (go_at_call 19; refine (hs_all19 _).mono ?_; rintro e w1 ⟨rfl, hb⟩; have n0 := Aside0.mk (blk_below HK.out hb); have n1 := Aside0.mk (below_step HB.out hb); clear HK HB hb c0 c1 c2 c3 c4 c5 c6; have HK := n0; have HB := n1; clear n0 n1; have c0 := (blk_cell HK.out 0).trans rfl; have c1 := (blk_cell HK.out 1).trans rfl; have c2 := (blk_cell HK.out 2).trans rfl; have c3 := (blk_cell HK.out 3).trans rfl; have c4 := (blk_cell HK.out 4).trans rfl; have c5 := (blk_cell HK.out 5).trans rfl; have c6 := (blk_cell HK.out 6).trans rfl)
    | (go_at_call 39; refine (hs_count39 _).mono ?_; rintro e w1 ⟨rfl, hb⟩; have n0 := Aside0.mk (blk_below HK.out hb); have n1 := Aside0.mk (below_step HB.out hb); clear HK HB hb c0 c1 c2 c3 c4 c5 c6; have HK := n0; have HB := n1; clear n0 n1; have c0 := (blk_cell HK.out 0).trans rfl; have c1 := (blk_cell HK.out 1).trans rfl; have c2 := (blk_cell HK.out 2).trans rfl; have c3 := (blk_cell HK.out 3).trans rfl; have c4 := (blk_cell HK.out 4).trans rfl; have c5 := (blk_cell HK.out 5).trans rfl; have c6 := (blk_cell HK.out 6).trans rfl))
  go_ret
  exact ⟨rfl, HB.out⟩
theorem hs_odd24 (w : World) : Calls Try.prog 24 #[.agg #[.slice none 0 0, .slice none 0 0, .int .i64 0, .int .i64 0, .int .i64 1, .int .i64 0, .slice none 0 0]] w fun e w' => e = .returned (.bool false) ∧ Below w.heap.size w w' := by
  go_enter Try.func24, Try.ntmps24
  go_wp2_with (first | (go_at_call 25; refine (hs_right25 _).mono ?_; rintro e w1 ⟨rfl, hb⟩; have HB := Aside0.mk (below_step (below_alloc (Below.refl _ _) _) hb); clear hb))
  go_ret
  exact ⟨rfl, HB.out⟩
/-- A row of one fresh node. -/
theorem hs_index40 (g : Nat) (w : World) (hg : w.heap[g]? = some (.cells #[.slice none 0 0, .slice none 0 0, .int .i64 0, .int .i64 0, .int .i64 1, .int .i64 0, .slice none 0 0] 44 (0, 0))) : Calls Try.prog 40 #[.slice (some ⟨g, 0, none⟩) 1 1, .func (.func 24) #[] #[]] w fun e w' => e = .returned (.int .i64 (-1)) ∧ Below w.heap.size w w' := by
  have HB := Aside0.mk (Below.refl w.heap.size w)
  have HK := Aside0.mk hg
  clear hg
  have c0 := (blk_cell HK.out 0).trans rfl; have c1 := (blk_cell HK.out 1).trans rfl; have c2 := (blk_cell HK.out 2).trans rfl; have c3 := (blk_cell HK.out 3).trans rfl; have c4 := (blk_cell HK.out 4).trans rfl; have c5 := (blk_cell HK.out 5).trans rfl; have c6 := (blk_cell HK.out 6).trans rfl
  go_enter Try.func40, Try.ntmps40
  go_wp2_with fail
  refine wp_loop_rounds 2 ?_
  rw [rounds_succ]
  go_wp2_with (first | (go_at_call 24; refine (hs_odd24 _).mono ?_; rintro e w1 ⟨rfl, hb⟩; have n0 := Aside0.mk (blk_below HK.out hb); have n1 := Aside0.mk (below_step HB.out hb); clear HK HB hb c0 c1 c2 c3 c4 c5 c6; have HK := n0; have HB := n1; clear n0 n1; have c0 := (blk_cell HK.out 0).trans rfl; have c1 := (blk_cell HK.out 1).trans rfl; have c2 := (blk_cell HK.out 2).trans rfl; have c3 := (blk_cell HK.out 3).trans rfl; have c4 := (blk_cell HK.out 4).trans rfl; have c5 := (blk_cell HK.out 5).trans rfl; have c6 := (blk_cell HK.out 6).trans rfl))
  rw [rounds_succ]
  go_wp2_with fail
  go_ret
  exact ⟨rfl, HB.out⟩
theorem hs_has26 (g : Nat) (w : World) (hg : w.heap[g]? = some (.cells #[.slice none 0 0, .slice none 0 0, .int .i64 0, .int .i64 0, .int .i64 1, .int .i64 0, .slice none 0 0] 44 (0, 0))) : Calls Try.prog 26 #[.slice (some ⟨g, 0, none⟩) 1 1, .func (.func 24) #[] #[]] w fun e w' => e = .returned (.bool false) ∧ Below w.heap.size w w' := by
  go_enter Try.func26, Try.ntmps26
  go_wp2_with (first | (go_at_call 40; refine (hs_index40 g _ hg).mono ?_; rintro e w1 ⟨rfl, hb⟩; have HB := Aside0.mk hb; clear hb))
  go_ret
  exact ⟨rfl, HB.out⟩
theorem hs_wrong23 (g : Nat) (w : World) (hg : w.heap[g]? = some (.cells #[.slice none 0 0, .slice none 0 0, .int .i64 0, .int .i64 0, .int .i64 1, .int .i64 0, .slice none 0 0] 44 (0, 0))) : Calls Try.prog 23 #[.slice (some ⟨g, 0, none⟩) 1 1] w fun e w' => e = .returned (.bool false) ∧ Below w.heap.size w w' := by
  go_enter Try.func23, Try.ntmps23
  go_wp2_with (first | (go_at_call 26; refine (hs_has26 g _ hg).mono ?_; rintro e w1 ⟨rfl, hb⟩; have HB := Aside0.mk hb; clear hb))
  go_ret
  exact ⟨rfl, HB.out⟩
/-- A row of one such row. -/
theorem hs_index41 (g h : Nat) (w : World) (hg : w.heap[g]? = some (.cells #[.slice none 0 0, .slice none 0 0, .int .i64 0, .int .i64 0, .int .i64 1, .int .i64 0, .slice none 0 0] 44 (0, 0))) (hh : w.heap[h]? = some (.cells #[.slice (some ⟨g, 0, none⟩) 1 1] 58 (0, 0))) : Calls Try.prog 41 #[.slice (some ⟨h, 0, none⟩) 1 1, .func (.func 23) #[] #[]] w fun e w' => e = .returned (.int .i64 (-1)) ∧ Below w.heap.size w w' := by
  have HB := Aside0.mk (Below.refl w.heap.size w)
  have c0 := (blk_cell hh 0).trans rfl
  go_enter Try.func41, Try.ntmps41
  go_wp2_with fail
  refine wp_loop_rounds 2 ?_
  rw [rounds_succ]
  go_wp2_with (first | (go_at_call 23; refine (hs_wrong23 g _ hg).mono ?_; rintro e w1 ⟨rfl, hb⟩; have n1 := Aside0.mk (below_step HB.out hb); clear HB hb; have HB := n1; clear n1))
  rw [rounds_succ]
  go_wp2_with fail
  go_ret
  exact ⟨rfl, HB.out⟩
theorem hs_has27 (g h : Nat) (w : World) (hg : w.heap[g]? = some (.cells #[.slice none 0 0, .slice none 0 0, .int .i64 0, .int .i64 0, .int .i64 1, .int .i64 0, .slice none 0 0] 44 (0, 0))) (hh : w.heap[h]? = some (.cells #[.slice (some ⟨g, 0, none⟩) 1 1] 58 (0, 0))) : Calls Try.prog 27 #[.slice (some ⟨h, 0, none⟩) 1 1, .func (.func 23) #[] #[]] w fun e w' => e = .returned (.bool false) ∧ Below w.heap.size w w' := by
  go_enter Try.func27, Try.ntmps27
  go_wp2_with (first | (go_at_call 41; refine (hs_index41 g h _ hg hh).mono ?_; rintro e w1 ⟨rfl, hb⟩; have HB := Aside0.mk hb; clear hb))
  go_ret
  exact ⟨rfl, HB.out⟩
theorem hs_route42x (w : World) : Calls Try.prog 42 #[.slice none 0 0, .int .i64 1] w fun e w' => e = .returned (.bool true) ∧ w' = w := by
  go_enter Try.func42, Try.ntmps42
  go_wp2_with fail
  refine wp_loop_rounds 1 ?_
  rw [rounds_succ]
  go_wp2_with fail
  go_ret
  exact ⟨rfl, rfl⟩
theorem hs_eq4 (w : World) : (binOp .eql 111 (.agg #[.int .i64 0, .int .i64 0, .int .i64 0, .int .i64 0]) (.agg #[.int .i64 0, .int .i64 0, .int .i64 0, .int .i64 0])).run Try.prog w = .ok (.bool true) w := by kernel_rfl
theorem hs_loopless43 (w : World) : Calls Try.prog 43 #[.slice none 0 0, .int .i64 1] w fun e w' => e = .returned (.bool true) ∧ Below w.heap.size w w' := by
  have hq := hs_eq4
  go_enter Try.func43, Try.ntmps43
  go_wp2_with fail
  go_step3
  go_wp2_with (first | (go_at_call 42; refine (hs_route42x _).mono ?_; rintro e w' ⟨rfl, rfl⟩))
  go_step3
  go_wp2_with fail
  refine wp_loop_rounds 1 ?_
  rw [rounds_succ]
  go_wp2_with fail
  refine wp_loop_rounds 1 ?_
  rw [rounds_succ]
  go_wp2_with fail
  refine wp_loop_rounds 1 ?_
  rw [rounds_succ]
  go_wp2_with fail
  rw [Exit.noGoto_ret]
  go_ret
  exact ⟨rfl, by repeat (first | exact Below.refl _ _ | apply below_alloc)⟩
theorem hs_mk50 (w : World) : (Instr.makeSlice 50 (.int .i64 1) (.int .i64 1)).run Try.prog w = .ok (.slice (some ⟨w.heap.size, 0, none⟩) 1 1) (w.alloc (.cells #[.slice none 0 0] 39)) := by kernel_rfl
theorem hs_mk51 (w : World) : (Instr.makeSlice 51 (.int .i64 1) (.int .i64 1)).run Try.prog w = .ok (.slice (some ⟨w.heap.size, 0, none⟩) 1 1) (w.alloc (.cells #[.int .i64 0] 3)) := by kernel_rfl
theorem hs_gate28 (w : World) : Calls Try.prog 28 #[.slice none 0 0, .int .i64 1, .int .i64 1] w fun e w' => (∃ a b : Nat, e = .returned (.tuple #[.agg #[.slice none 0 0, .int .i64 1, .slice (some ⟨a, 0, none⟩) 1 1, .slice (some ⟨b, 0, none⟩) 1 1], .int .i64 0])) ∧ Below w.heap.size w w' := by
  go_enter Try.func28, Try.ntmps28
  go_wp2_with (first
    | (go_at_call 42; refine (hs_route42x _).mono ?_; rintro e w' ⟨rfl, rfl⟩)
    | (go_at_call 43; refine (hs_loopless43 _).mono ?_; rintro e w1 ⟨rfl, hb⟩; have K1 := Aside0.mk (blk_below (blk_new _ _) hb); have B1 := Aside0.mk (below_step (below_alloc (Below.refl _ _) _) hb); clear hb))
  have m1 := hs_mk50
  have m2 := hs_mk51
  have c0 := (blk_cell K1.out 0).trans rfl
  have c1 := (blk_cell K1.out 1).trans rfl
  have c2 := (blk_cell K1.out 2).trans rfl
  have c3 := (blk_cell K1.out 3).trans rfl
  have f0 := blk_frozen K1.out 0
  have f1 := blk_frozen K1.out 1
  have f2 := blk_frozen K1.out 2
  have f3 := blk_frozen K1.out 3
  have hlt := blk_lt K1.out
  obtain ⟨d53, u53⟩ := hs_u53
  go_region
  all_goals
    clear c0 c1 c2 c3 f0 f1 f2 f3 m1 m2 hlt
    go_wp2
    refine bodyPost_ret (results_ct rfl _ _ w.heap.size 53 _ (0, 0) _ rfl (blk_drew (blk_alloc (blk_alloc (blk_put (blk_put (blk_put (blk_put K1.out 0 _ rfl) 1 _ rfl) 2 _ rfl) 3 _ rfl) _) _)) u53 rfl (by kernel_rfl)) rfl ?_
    exact ⟨⟨_, _, rfl⟩, below_drew1 (below_alloc (below_alloc (below_set (below_set (below_set (below_set B1.out (Nat.le_refl _)) (Nat.le_refl _)) (Nat.le_refl _)) (Nat.le_refl _)) _) _)⟩
theorem hs_info44 : ∃ i z, Try.prog.info? 44 = some i ∧ i.zero = some z ∧ i.size = 7 ∧ i.bytes = 104 ∧ z.cells.size = 7 := by
  have h : (Try.prog.info? 44).map (fun i => (i.zero.map (·.cells.size), i.size, i.bytes)) = some (some 7, 7, 104) := by kernel_rfl
  cases hi : Try.prog.info? 44 with
  | none => rw [hi] at h; cases h
  | some i =>
    rw [hi] at h
    simp only [Option.map_some, Option.some.injEq, Prod.mk.injEq] at h
    obtain ⟨h1, h2, h3⟩ := h
    cases hz : i.zero with
    | none => rw [hz] at h1; cases h1
    | some z => rw [hz] at h1; exact ⟨i, z, rfl, hz, h2, h3, by simpa using h1⟩
theorem hs_info58 : ∃ i z, Try.prog.info? 58 = some i ∧ i.zero = some z ∧ i.size = 1 ∧ i.bytes = 24 ∧ z.cells.size = 1 := by
  have h : (Try.prog.info? 58).map (fun i => (i.zero.map (·.cells.size), i.size, i.bytes)) = some (some 1, 1, 24) := by kernel_rfl
  cases hi : Try.prog.info? 58 with
  | none => rw [hi] at h; cases h
  | some i =>
    rw [hi] at h
    simp only [Option.map_some, Option.some.injEq, Prod.mk.injEq] at h
    obtain ⟨h1, h2, h3⟩ := h
    cases hz : i.zero with
    | none => rw [hz] at h1; cases h1
    | some z => rw [hz] at h1; exact ⟨i, z, rfl, hz, h2, h3, by simpa using h1⟩
theorem hs_und58 : Try.prog.underlying 58 = some (.slice 44) := by kernel_rfl
theorem hs_und48 : Try.prog.underlying 48 = some (.slice 58) := by kernel_rfl
/-- A literal's cells, as an append reads them. -/
theorem hs_news {W : World} {b : Nat} {cs : List Value} {t : TypeId} (h : W.heap[b]? = some (.cells cs.toArray t (0, 0))) : ∀ j u, cs[j]? = some u → W.cell? ((⟨b, 0, none⟩ : Addr).add j) = some u := fun j u hj => by
  have e : (⟨b, 0, none⟩ : Addr).add j = ⟨b, j, none⟩ := by simp [Addr.add]; omega
  rw [e, blk_cell h j]
  simpa using hj
theorem hs_clone29 (g : Nat) (w : World) (hg : w.heap[g]? = some (.cells #[.slice none 0 0, .slice none 0 0, .int .i64 0, .int .i64 0, .int .i64 1, .int .i64 0, .slice none 0 0] 44 (0, 0))) : Calls Try.prog 29 #[.slice (some ⟨g, 0, none⟩) 1 1] w fun e w' => ∃ v : Value, e = .returned v ∧ w'.ownsRow w.heap.size 44 7 v 1 [.slice none 0 0, .slice none 0 0, .int .i64 0, .int .i64 0, .int .i64 1, .int .i64 0, .slice none 0 0] ∧ Below w.heap.size w w' := by
  have qE : ∀ (d : Nat) (w : World) (a : Option Addr) (n c : Nat), (Op.equalIn (d + 1) 58 (.slice a n c) (.slice none 0 0)).run Try.prog w = .ok a.isNone w := fun d w a n c => by
    cases a <;> simp [Op.equalIn, run_underlying hs_und58]
  have qT : ∀ (w : World) (a : Option Addr) (n c : Nat), (binOp .eql 58 (.slice a n c) (.slice none 0 0)).run Try.prog w = .ok (.bool a.isNone) w := fun w a n c => by
    simp only [binOp]
    simp [Op.equal, Op.maxDepth, qE 9999 w a n c]
  obtain ⟨i, z, hi, hz, h7, hby, hzs⟩ := hs_info44
  have KG := Aside0.mk (blk_alloc hg (.cells #[] 44))
  have HO := Aside0.mk (show (w.alloc (.cells #[] 44)).ownsRow w.heap.size 44 7 (.slice (some ⟨w.heap.size, 0, none⟩) 0 0) 0 [] from ⟨rfl, .inr ⟨w.heap.size, 0, #[], rfl, Nat.le_refl _, blk_new w _, Nat.le_refl _, Nat.zero_le _, rfl, rfl⟩⟩)
  clear hg
  go_enter Try.func29, Try.ntmps29
  go_wp2_with (first | (at_builtin; go_loud (refine wpList_append_own _ rfl _ _ 58 rfl w.heap.size 44 i z 7 104 hs_und58 hi hz h7 hby hzs (by decide) _ 0 [] rfl HO.out ⟨g, 0, none⟩ 1 1 [.slice none 0 0, .slice none 0 0, .int .i64 0, .int .i64 0, .int .i64 1, .int .i64 0, .slice none 0 0] rfl rfl (hs_news KG.out) (by intro u hu; simp only [List.mem_cons, List.not_mem_nil, or_false] at hu; rcases hu with rfl | rfl | rfl | rfl | rfl | rfl | rfl <;> rfl) (by decide) (by decide) (by simp) ?_); intro v' w' ho hgr _; have HO2 := Aside0.mk ho; have HB2 := Aside0.mk ((below_alloc (Below.refl w.heap.size w) (.cells #[] 44)).grown hgr (by simp) (own_base HO.out)); clear ho hgr))
  go_ret
  exact ⟨_, rfl, HO2.out, HB2.out⟩
/-- An append as one step of a region that draws its order. -/
theorem hs_step {P : Program} {ops : Array Oper} {o : Oper} {a : Act} {Q : Exit → Act → World → Prop} {Kc : Act → World → Prop} {W : World} (base : Nat) (hw : Region.wanted o (yielded ops a.tmps) = true) (s x : Operand) (t e : TypeId) (i : TypeInfo) (z : Value) (size bytes : Nat)
    (ho : o.op = .call { callee := .builtin .append, args := #[s, x], argTypes := #[t, t] }) (ht : P.underlying t = some (.slice e)) (hi : P.info? e = some i) (hz : i.zero = some z) (hsize : i.size = size) (hby : i.bytes = bytes) (hzs : z.cells.size = size) (hsz : 0 < size)
    (v : Value) (n : Nat) (xs ys : List Value) (ad : Addr) (hs : a.eval s = v) (hx : a.eval x = .slice (some ad) 1 1) (hys : ys.length = size) (hnews : ∀ j u, ys[j]? = some u → W.cell? (ad.add j) = some u) (h1 : ∀ u ∈ ys, u.oneCell' = true)
    (HO : W.ownsRow base e size v n xs) (hbase : base ≤ W.heap.size) (hn : n ≤ 1000) (hb : bytes ≤ 1000)
    (h : ∀ v1 w1, w1.ownsRow base e size v1 (n + 1) (xs ++ ys) → W.grownBy w1 v.ownBlock → Kc (a.put o.dst v1) w1) :
    if Region.wanted o (yielded ops a.tmps) = true then Oper.wp P o a W Kc Q else Kc (a.put o.dst undef) W := by
  rw [if_pos hw]
  have hm : (n + 1) * bytes ≤ 1001 * 1000 := Nat.mul_le_mul (by omega) hb
  exact wp_append_own W s x t ho base e i z size bytes ht hi hz hsize hby hzs hsz v n xs hs HO ad 1 1 ys hx (by omega) hnews h1 (by simp only [maxLen]; omega) (by omega) hbase fun v' w' h2 h3 _ => h v' w' h2 h3
theorem hs_net11 (g h : Nat) (w : World) (hg : w.heap[g]? = some (.cells #[.slice none 0 0, .slice none 0 0, .int .i64 0, .int .i64 0, .int .i64 1, .int .i64 0, .slice none 0 0] 44 (0, 0))) (hh : w.heap[h]? = some (.cells #[.slice (some ⟨g, 0, none⟩) 1 1] 58 (0, 0))) :
    Calls Try.prog 11 #[.slice (some ⟨h, 0, none⟩) 1 1, .slice none 0 0, .int .i64 1] w fun e w' => (∃ (A8 : Option Addr) (c8 ga gb : Nat), e = .returned (.tuple #[.agg #[.slice A8 1 c8, .slice none 0 0, .int .i64 1, .slice (some ⟨ga, 0, none⟩) 1 1, .slice (some ⟨gb, 0, none⟩) 1 1], .int .i64 0])) ∧ Below w.heap.size w w' := by
  obtain ⟨i4, z4, hi4, hz4, h74, hby4, hzs4⟩ := hs_info44
  obtain ⟨i5, z5, hi5, hz5, h75, hby5, hzs5⟩ := hs_info58
  obtain ⟨d55, hq55⟩ := hs_u55
  have KG := Aside0.mk hg
  have KH := Aside0.mk hh
  clear hg hh
  go_enter Try.func11, Try.ntmps11
  go_wp2_with (first
    | (go_at_call 27; refine (hs_has27 g h _ (blk_alloc KG.out _) (blk_alloc KH.out _)).mono ?_; rintro e w1 ⟨rfl, hb⟩; have KG1 := Aside0.mk (blk_below (blk_alloc KG.out _) hb); have KH1 := Aside0.mk (blk_below (blk_alloc KH.out _) hb); have K6 := Aside0.mk (blk_below (blk_new w _) hb); have B1 := Aside0.mk (below_step (below_alloc (Below.refl _ _) _) hb); clear hb KG KH)
    | (go_at_call 28; refine (hs_gate28 _).mono ?_; rintro e w2 ⟨⟨ga, gb, rfl⟩, hb⟩; have KG2 := Aside0.mk (blk_below KG1.out hb); have KH2 := Aside0.mk (blk_below KH1.out hb); have K62 := Aside0.mk (blk_below K6.out hb); have B2 := Aside0.mk (below_step B1.out hb); clear hb KG1 KH1 K6 B1))
  have sA : (w2.alloc (.cells #[.slice none 0 0, .int .i64 1, .slice (some ⟨ga, 0, none⟩) 1 1, .slice (some ⟨gb, 0, none⟩) 1 1] 53)).heap.size = w2.heap.size + 1 := by simp
  have KN := blk_new (w2.alloc (.cells #[.slice none 0 0, .int .i64 1, .slice (some ⟨ga, 0, none⟩) 1 1, .slice (some ⟨gb, 0, none⟩) 1 1] 53)) (.cells #[.slice none 0 0, .slice none 0 0, .int .i64 1, .slice (some ⟨ga, 0, none⟩) 1 1, .slice (some ⟨gb, 0, none⟩) 1 1] 55)
  rw [sA] at KN
  have KG3 := Aside0.mk (blk_alloc (blk_alloc KG2.out (.cells #[.slice none 0 0, .int .i64 1, .slice (some ⟨ga, 0, none⟩) 1 1, .slice (some ⟨gb, 0, none⟩) 1 1] 53)) (.cells #[.slice none 0 0, .slice none 0 0, .int .i64 1, .slice (some ⟨ga, 0, none⟩) 1 1, .slice (some ⟨gb, 0, none⟩) 1 1] 55))
  have KH3 := Aside0.mk (blk_alloc (blk_alloc KH2.out (.cells #[.slice none 0 0, .int .i64 1, .slice (some ⟨ga, 0, none⟩) 1 1, .slice (some ⟨gb, 0, none⟩) 1 1] 53)) (.cells #[.slice none 0 0, .slice none 0 0, .int .i64 1, .slice (some ⟨ga, 0, none⟩) 1 1, .slice (some ⟨gb, 0, none⟩) 1 1] 55))
  have K63 := Aside0.mk (blk_alloc (blk_alloc K62.out (.cells #[.slice none 0 0, .int .i64 1, .slice (some ⟨ga, 0, none⟩) 1 1, .slice (some ⟨gb, 0, none⟩) 1 1] 53)) (.cells #[.slice none 0 0, .slice none 0 0, .int .i64 1, .slice (some ⟨ga, 0, none⟩) 1 1, .slice (some ⟨gb, 0, none⟩) 1 1] 55))
  have B3 := Aside0.mk (below_alloc (below_alloc B2.out (.cells #[.slice none 0 0, .int .i64 1, .slice (some ⟨ga, 0, none⟩) 1 1, .slice (some ⟨gb, 0, none⟩) 1 1] 53)) (.cells #[.slice none 0 0, .slice none 0 0, .int .i64 1, .slice (some ⟨ga, 0, none⟩) 1 1, .slice (some ⟨gb, 0, none⟩) 1 1] 55))
  have KN3 := Aside0.mk KN
  have hgn := Aside0.mk (below_size B2.out)
  generalize (w2.alloc (.cells #[.slice none 0 0, .int .i64 1, .slice (some ⟨ga, 0, none⟩) 1 1, .slice (some ⟨gb, 0, none⟩) 1 1] 53)).alloc (.cells #[.slice none 0 0, .slice none 0 0, .int .i64 1, .slice (some ⟨ga, 0, none⟩) 1 1, .slice (some ⟨gb, 0, none⟩) 1 1] 55) = w3 at KN3 KG3 KH3 K63 B3 ⊢
  clear KN sA KG2 KH2 K62 B2
  have c0 : w3.cell? ⟨h, 0, none⟩ = some (.slice (some ⟨g, 0, none⟩) 1 1) := (blk_cell KH3.out 0).trans rfl
  refine wp_loop_rounds 2 ?_
  rw [rounds_succ]
  go_upto_block 1 with (fail)
  go_cut [] (fun wc => ∃ (A8 : Option Addr) (c8 : Nat), Aside0 (wc.heap[w2.heap.size + 1]? = some (.cells #[.slice A8 1 c8, .slice none 0 0, .int .i64 1, .slice (some ⟨ga, 0, none⟩) 1 1, .slice (some ⟨gb, 0, none⟩) 1 1] 55 (0, 0))) ∧ Aside0 (wc.heap[w.heap.size]? = some (.cells #[.slice none 0 0, .slice none 0 0, .int .i64 0, .slice none 0 0, .slice none 0 0] 55 (0, 0))) ∧ Aside0 (Below w.heap.size w wc))
  case first =>
    go_wp2_with (first | (go_at_call 10; refine (hs_node10 _).mono ?_; rintro e w4 ⟨rfl, hb⟩; have KG4 := Aside0.mk (blk_alloc (blk_below KG3.out hb) (.cells #[.slice none 0 0, .slice none 0 0, .int .i64 0, .int .i64 0, .int .i64 1, .int .i64 0, .slice none 0 0] 44)); have KN4 := Aside0.mk (blk_alloc (blk_below KN3.out hb) (.cells #[.slice none 0 0, .slice none 0 0, .int .i64 0, .int .i64 0, .int .i64 1, .int .i64 0, .slice none 0 0] 44)); have K64 := Aside0.mk (blk_alloc (blk_below K63.out hb) (.cells #[.slice none 0 0, .slice none 0 0, .int .i64 0, .int .i64 0, .int .i64 1, .int .i64 0, .slice none 0 0] 44)); have B4 := Aside0.mk (below_alloc (below_step B3.out hb) (.cells #[.slice none 0 0, .slice none 0 0, .int .i64 0, .int .i64 0, .int .i64 1, .int .i64 0, .slice none 0 0] 44)); have KO4 := Aside0.mk (blk_new w4 (.cells #[.slice none 0 0, .slice none 0 0, .int .i64 0, .int .i64 0, .int .i64 1, .int .i64 0, .slice none 0 0] 44)); clear hb KG3 KH3 KN3 K63 B3 c0))
    generalize w4.alloc (.cells #[.slice none 0 0, .slice none 0 0, .int .i64 0, .int .i64 0, .int .i64 1, .int .i64 0, .slice none 0 0] 44) = w5 at KG4 KN4 K64 B4 KO4 ⊢
    have n0 : w5.cell? ⟨w2.heap.size + 1, 0, none⟩ = some (.slice none 0 0) := (blk_cell KN4.out 0).trans rfl
    have nf : w5.frozen? ⟨w2.heap.size + 1, 0, none⟩ = false := blk_frozen KN4.out 0
    have o0 := (blk_cell KO4.out 0).trans rfl
    have o1 := (blk_cell KO4.out 1).trans rfl
    have o2 := (blk_cell KO4.out 2).trans rfl
    have o3 := (blk_cell KO4.out 3).trans rfl
    have o4 := (blk_cell KO4.out 4).trans rfl
    have o5 := (blk_cell KO4.out 5).trans rfl
    have o6 := (blk_cell KO4.out 6).trans rfl
    have n5a : (w5.alloc (.cells #[.slice none 0 0, .slice none 0 0, .int .i64 0, .int .i64 0, .int .i64 1, .int .i64 0, .slice none 0 0] 44)).cell? ⟨w2.heap.size + 1, 0, none⟩ = some (.slice none 0 0) := (blk_cell (blk_alloc KN4.out _) 0).trans rfl
    have LN := Aside0.mk (blk_lt KN4.out)
    have L6 := Aside0.mk (blk_lt K64.out)
    go_region_law (first
      | (refine hs_step (W := w6.alloc (.cells #[.slice none 0 0, .slice none 0 0, .int .i64 0, .int .i64 0, .int .i64 1, .int .i64 0, .slice none 0 0] 44)) w5.heap.size (by rfl) _ _ 58 44 i4 z4 7 104 (by rfl) hs_und58 hi4 hz4 h74 hby4 hzs4 (by decide) (.slice A6 1 c6) 1 [.slice none 0 0, .slice none 0 0, .int .i64 0, .int .i64 0, .int .i64 1, .int .i64 0, .slice none 0 0] [.slice none 0 0, .slice none 0 0, .int .i64 0, .int .i64 0, .int .i64 1, .int .i64 0, .slice none 0 0] ⟨w6.heap.size, 0, none⟩ (by rfl) (by rfl) rfl (hs_news (blk_new w6 (.cells #[.slice none 0 0, .slice none 0 0, .int .i64 0, .int .i64 0, .int .i64 1, .int .i64 0, .slice none 0 0] 44))) (by intro u hu; simp only [List.mem_cons, List.not_mem_nil, or_false] at hu; rcases hu with rfl | rfl | rfl | rfl | rfl | rfl | rfl <;> rfl) (HO6.out.alloc _) (by have := y6.out; simp; omega) (by decide) (by decide) ?_; intro v7 w7 ho7 hg7; have ho7b : w7.ownsRow w5.heap.size 44 7 v7 2 ([.slice none 0 0, .slice none 0 0, .int .i64 0, .int .i64 0, .int .i64 1, .int .i64 0, .slice none 0 0] ++ [.slice none 0 0, .slice none 0 0, .int .i64 0, .int .i64 0, .int .i64 1, .int .i64 0, .slice none 0 0]) := ho7; clear ho7; obtain ⟨A7, c7, hv7⟩ := own_slice ho7b; subst hv7; have HO7 := Aside0.mk ho7b; clear ho7b; have KN7 := Aside0.mk (blk_grown (blk_alloc KN6.out _) hg7 (fun e => by have := own_base HO6.out _ e.symm; have := LN.out; omega)); have K67 := Aside0.mk (blk_grown (blk_alloc K66.out _) hg7 (fun e => by have := own_base HO6.out _ e.symm; have := L6.out; omega)); have B7 := Aside0.mk ((below_alloc B6.out _).grown hg7 (below_size (below_alloc B6.out _)) (fun k e => by have := own_base HO6.out _ e; have := L6.out; omega)); clear hg7; have y7 := Aside0.mk (show w.heap.size ≤ w7.heap.size from below_size B7.out); have n7 : w7.cell? ⟨w2.heap.size + 1, 0, none⟩ = some (.slice none 0 0) := (blk_cell KN7.out 0).trans rfl; have n7a : (w7.alloc (.cells #[.slice A7 2 c7] 58)).cell? ⟨w2.heap.size + 1, 0, none⟩ = some (.slice none 0 0) := (blk_cell (blk_alloc KN7.out _) 0).trans rfl)
      | (refine hs_step (W := w6) w5.heap.size (by rfl) _ _ 58 44 i4 z4 7 104 (by rfl) hs_und58 hi4 hz4 h74 hby4 hzs4 (by decide) (.slice A6 1 c6) 1 [.slice none 0 0, .slice none 0 0, .int .i64 0, .int .i64 0, .int .i64 1, .int .i64 0, .slice none 0 0] [.slice none 0 0, .slice none 0 0, .int .i64 0, .int .i64 0, .int .i64 1, .int .i64 0, .slice none 0 0] ⟨w5.heap.size, 0, none⟩ (by rfl) (by rfl) rfl (hs_news KB6.out) (by intro u hu; simp only [List.mem_cons, List.not_mem_nil, or_false] at hu; rcases hu with rfl | rfl | rfl | rfl | rfl | rfl | rfl <;> rfl) HO6.out y6.out (by decide) (by decide) ?_; intro v7 w7 ho7 hg7; have ho7b : w7.ownsRow w5.heap.size 44 7 v7 2 ([.slice none 0 0, .slice none 0 0, .int .i64 0, .int .i64 0, .int .i64 1, .int .i64 0, .slice none 0 0] ++ [.slice none 0 0, .slice none 0 0, .int .i64 0, .int .i64 0, .int .i64 1, .int .i64 0, .slice none 0 0]) := ho7; clear ho7; obtain ⟨A7, c7, hv7⟩ := own_slice ho7b; subst hv7; have HO7 := Aside0.mk ho7b; clear ho7b; have KN7 := Aside0.mk (blk_grown KN6.out hg7 (fun e => by have := own_base HO6.out _ e.symm; have := LN.out; omega)); have K67 := Aside0.mk (blk_grown K66.out hg7 (fun e => by have := own_base HO6.out _ e.symm; have := L6.out; omega)); have B7 := Aside0.mk (B6.out.grown hg7 (below_size B6.out) (fun k e => by have := own_base HO6.out _ e; have := L6.out; omega)); clear hg7; have y7 := Aside0.mk (show w.heap.size ≤ w7.heap.size from below_size B7.out); have n7 : w7.cell? ⟨w2.heap.size + 1, 0, none⟩ = some (.slice none 0 0) := (blk_cell KN7.out 0).trans rfl; have n7a : (w7.alloc (.cells #[.slice A7 2 c7] 58)).cell? ⟨w2.heap.size + 1, 0, none⟩ = some (.slice none 0 0) := (blk_cell (blk_alloc KN7.out _) 0).trans rfl)
      | (refine hs_step (W := w7.alloc (.cells #[.slice A7 2 c7] 58)) w.heap.size (by rfl) _ _ 48 58 i5 z5 1 24 (by rfl) hs_und48 hi5 hz5 h75 hby5 hzs5 (by decide) (.slice none 0 0) 0 [] [.slice A7 2 c7] ⟨w7.heap.size, 0, none⟩ (by rfl) (by rfl) rfl (hs_news (blk_new w7 (.cells #[.slice A7 2 c7] 58))) (by intro u hu; simp only [List.mem_cons, List.not_mem_nil, or_false] at hu; subst hu; rfl) (own_nil _ _ _ _) (by have := y7.out; simp; omega) (by decide) (by decide) ?_; intro v8 w8 ho8 hg8; obtain ⟨A8, c8, hv8⟩ := own_slice ho8; subst hv8; have KN8 := Aside0.mk (blk_grown (blk_alloc KN7.out (.cells #[.slice A7 2 c7] 58)) hg8 (fun e => by cases e)); have K68 := Aside0.mk (blk_grown (blk_alloc K67.out (.cells #[.slice A7 2 c7] 58)) hg8 (fun e => by cases e)); have B8 := Aside0.mk ((below_alloc B7.out (.cells #[.slice A7 2 c7] 58)).grown hg8 (below_size (below_alloc B7.out _)) (fun k e => by cases e)); clear ho8 hg8; have n8 : w8.cell? ⟨w2.heap.size + 1, 0, none⟩ = some (.slice none 0 0) := (blk_cell KN8.out 0).trans rfl; have f8 : w8.frozen? ⟨w2.heap.size + 1, 0, none⟩ = false := blk_frozen KN8.out 0)
      | (go_simp; go_at_call 29; (with_reducible refine (hs_clone29 g w5.drew (blk_drew KG4.out)).mono ?_); rintro e w6 ⟨v6, rfl, ho6, hb6⟩; have y6 := Aside0.mk (show w5.heap.size ≤ w6.heap.size from hb6.size); have KN6 := Aside0.mk (blk_below (blk_drew KN4.out) hb6); have K66 := Aside0.mk (blk_below (blk_drew K64.out) hb6); have KO6 := Aside0.mk (blk_below (blk_drew KO4.out) hb6); have B6 := Aside0.mk (below_step (below_drew1 B4.out) hb6); clear hb6; obtain ⟨A6, c6, hv6⟩ := own_slice ho6; subst hv6; have HO6 := Aside0.mk (show w6.ownsRow w5.heap.size 44 7 (.slice A6 1 c6) 1 [.slice none 0 0, .slice none 0 0, .int .i64 0, .int .i64 0, .int .i64 1, .int .i64 0, .slice none 0 0] from own_weaken ho6 (Nat.le_refl _)); clear ho6; have n6 : w6.cell? ⟨w2.heap.size + 1, 0, none⟩ = some (.slice none 0 0) := (blk_cell KN6.out 0).trans rfl; have n6a : (w6.alloc (.cells #[.slice none 0 0, .slice none 0 0, .int .i64 0, .int .i64 0, .int .i64 1, .int .i64 0, .slice none 0 0] 44)).cell? ⟨w2.heap.size + 1, 0, none⟩ = some (.slice none 0 0) := (blk_cell (blk_alloc KN6.out _) 0).trans rfl; have p0 := (blk_cell KO6.out 0).trans rfl; have p1 := (blk_cell KO6.out 1).trans rfl; have p2 := (blk_cell KO6.out 2).trans rfl; have p3 := (blk_cell KO6.out 3).trans rfl; have p4 := (blk_cell KO6.out 4).trans rfl; have p5 := (blk_cell KO6.out 5).trans rfl; have p6 := (blk_cell KO6.out 6).trans rfl; have z6 := Aside0.mk (below_size B6.out))
      | (go_simp; go_at_call 29; (with_reducible refine (hs_clone29 g (w5.alloc (.cells #[.slice none 0 0, .slice none 0 0, .int .i64 0, .int .i64 0, .int .i64 1, .int .i64 0, .slice none 0 0] 44)).drew (blk_drew (blk_alloc KG4.out _))).mono ?_); rintro e w6 ⟨v6, rfl, ho6, hb6⟩; have KB6 := Aside0.mk (show w6.heap[w5.heap.size]? = some (.cells #[.slice none 0 0, .slice none 0 0, .int .i64 0, .int .i64 0, .int .i64 1, .int .i64 0, .slice none 0 0] 44 (0, 0)) from blk_below (blk_drew (blk_new w5 (.cells #[.slice none 0 0, .slice none 0 0, .int .i64 0, .int .i64 0, .int .i64 1, .int .i64 0, .slice none 0 0] 44))) hb6); have y6 := Aside0.mk (show w5.heap.size ≤ w6.heap.size from Nat.le_trans (by simp) hb6.size); have KN6 := Aside0.mk (blk_below (blk_drew (blk_alloc KN4.out _)) hb6); have K66 := Aside0.mk (blk_below (blk_drew (blk_alloc K64.out _)) hb6); have KO6 := Aside0.mk (blk_below (blk_drew (blk_alloc KO4.out _)) hb6); have B6 := Aside0.mk (below_step (below_drew1 (below_alloc B4.out _)) hb6); clear hb6; obtain ⟨A6, c6, hv6⟩ := own_slice ho6; subst hv6; have HO6 := Aside0.mk (show w6.ownsRow w5.heap.size 44 7 (.slice A6 1 c6) 1 [.slice none 0 0, .slice none 0 0, .int .i64 0, .int .i64 0, .int .i64 1, .int .i64 0, .slice none 0 0] from own_weaken ho6 (by simp)); clear ho6; have n6 : w6.cell? ⟨w2.heap.size + 1, 0, none⟩ = some (.slice none 0 0) := (blk_cell KN6.out 0).trans rfl; have n6a : (w6.alloc (.cells #[.slice none 0 0, .slice none 0 0, .int .i64 0, .int .i64 0, .int .i64 1, .int .i64 0, .slice none 0 0] 44)).cell? ⟨w2.heap.size + 1, 0, none⟩ = some (.slice none 0 0) := (blk_cell (blk_alloc KN6.out _) 0).trans rfl; have p0 := (blk_cell KO6.out 0).trans rfl; have p1 := (blk_cell KO6.out 1).trans rfl; have p2 := (blk_cell KO6.out 2).trans rfl; have p3 := (blk_cell KO6.out 3).trans rfl; have p4 := (blk_cell KO6.out 4).trans rfl; have p5 := (blk_cell KO6.out 5).trans rfl; have p6 := (blk_cell KO6.out 6).trans rfl; have z6 := Aside0.mk (below_size B6.out)))
    all_goals
      go_wp2_with fail
      go_meet
      exact ⟨A8, c8, ⟨blk_put KN8.out 0 _ rfl⟩, ⟨blk_far K68.out (by have := hgn.out; simp only; omega) _⟩, ⟨B8.out.setCell (p := ⟨w2.heap.size + 1, 0, none⟩) (by have := hgn.out; simp only; omega) _⟩⟩
  case rest =>
    obtain ⟨A8, c8, KN9, K69, B9⟩ := hcut
    clear KG3 KH3 KN3 K63 B3 c0
    have q0 := (blk_cell KN9.out 0).trans rfl
    have q1 := (blk_cell KN9.out 1).trans rfl
    have q2 := (blk_cell KN9.out 2).trans rfl
    have q3 := (blk_cell KN9.out 3).trans rfl
    have q4 := (blk_cell KN9.out 4).trans rfl
    go_wp2_with fail
    rw [rounds_succ]
    go_wp2_with (first | ((with_reducible refine gate_store (t := 55) (p := 6) rfl ?_); refine HW.store_box' rfl rfl 55 _ _ rfl rfl rfl K69.out rfl (by kernel_rfl) (by intro q hq; simp only [List.mem_cons, List.not_mem_nil, or_false] at hq; rcases hq with rfl | rfl | rfl | rfl | rfl <;> rfl) ?_; intro wz hk hgz; have KZ := Aside0.mk hk; have BZ := Aside0.mk (B9.out.grown hgz (below_size B9.out) (fun k e => by cases e; exact Nat.le_refl _)); clear hk hgz))
    refine bodyPost_ret (results_ct rfl _ _ w.heap.size 55 _ (0, 0) _ rfl KZ.out hq55 rfl (by kernel_rfl)) rfl ?_
    exact ⟨⟨_, _, _, _, rfl⟩, BZ.out⟩
theorem hs_make29 (w : World) : (Instr.makeSlice 29 (.int .i64 2) (.int .i64 2)).run Try.prog w = .ok (.slice (some ⟨w.heap.size, 0, none⟩) 2 2) (w.alloc (.cells #[.int .u8 0, .int .u8 0] 5)) := by kernel_rfl
theorem hs_two (w : World) : Kd.C (Kd.int .u8) (w.alloc (.cells #[.int .u8 0, .int .u8 0] 5)) (some ⟨w.heap.size, 0, none⟩) ([0, 0] : List Int).length [0, 0] :=
  (Kd.R_reads' (Kd.R_of_own (enc := Value.int .u8) (h1 := fun _ => rfl) (e := 5) (base := w.heap.size) (ok := fun _ => True) (v := .slice (some ⟨w.heap.size, 0, none⟩) 2 2) (xs := [0, 0]) ⟨rfl, .inr ⟨w.heap.size, 2, #[.int .u8 0, .int .u8 0], rfl, Nat.le_refl _, blk_new w _, Nat.le_refl _, by decide, rfl, rfl⟩⟩ (fun _ _ => trivial))).2.2
theorem hs_put : sig_Put.f 40 [0, 0] 0 8 false false 2 1 5 = some ([5, 0], true) := by decide +kernel
def hsL : List Int := ((trust_Wrap.f 9 0 [5, 0]).getD ([], false)).1
theorem hs_wrapped : trust_Wrap.f 9 0 [5, 0] = some (hsL, true) ∧ hsL.length = 4 ∧ rd hsL 2 = 5 := by decide +kernel
theorem hs_mean : sig_Mean.f 0 8 false false 2 1 5 = some 11 := by decide +kernel
theorem hs_at2 (w : World) (A B C : Obj) : (((w.alloc A).alloc B).alloc C).heap[w.heap.size + 1]? = some B ∧ (((w.alloc A).alloc B).alloc C).heap[w.heap.size + 1 + 1]? = some C := by
  have s1 : (w.alloc A).heap.size = w.heap.size + 1 := by simp
  have s2 : ((w.alloc A).alloc B).heap.size = w.heap.size + 1 + 1 := by simp
  have b1 := blk_new (w.alloc A) B
  have b2 := blk_new ((w.alloc A).alloc B) C
  rw [s1] at b1
  rw [s2] at b2
  exact ⟨blk_alloc b1 C, b2⟩
theorem hs_head4 (w : World) : Calls Try.prog 4 #[] w fun e w' => e = .returned (.bool true) ∧ Below w.heap.size w w' := by
  have m := hs_make29
  obtain ⟨hw1, hw2, hw3⟩ := hs_wrapped
  go_enter Try.func4, Try.ntmps4
  go_wp2_with (first
    | (go_at_call 9; refine (sig_Put.calls 40 _ _ [0, 0] 0 8 false false 2 1 5 [5, 0] true _ (hs_two w) (by decide) hs_put).mono ?_; rintro e w1 ⟨v1, rfl, ho1, hb1⟩; obtain ⟨A1, c1, hv1⟩ := Kd.R_slice ho1; subst hv1; have HO1 := Aside0.mk ho1; have B1 := Aside0.mk (below_step (below_alloc (Below.refl _ _) _) hb1); clear ho1 hb1)
    | (go_at_call 6; refine (trust_Wrap.calls 9 0 A1 c1 [5, 0] hsL true _ (Kd.R_reads' HO1.out).2.2 (Kd.R_reads' HO1.out).2.1 hw1).mono ?_; rintro e w2 ⟨v2, rfl, ho2, hb2⟩; obtain ⟨A2, c2, hv2⟩ := Kd.R_slice ho2; subst hv2; have HO2 := Aside0.mk ho2; have B2 := Aside0.mk (below_step B1.out hb2); clear ho2 hb2 HO1 B1)
    | (go_at_call 10; refine (hs_node10 _).mono ?_; rintro e w3 ⟨rfl, hb3⟩; have HO3 := Aside0.mk (Kd.R_below HO2.out hb3); have B3 := Aside0.mk (below_step B2.out hb3); clear hb3 HO2 B2)
    | (go_at_call 11; refine (hs_net11 (w3.heap.size + 1) (w3.heap.size + 1 + 1) _ (hs_at2 w3 _ _ _).1 (hs_at2 w3 _ _ _).2).mono ?_; rintro e w4 ⟨⟨A8, c8, ga, gb, rfl⟩, hb4⟩; have HO4 := Aside0.mk (Kd.R_alloc (Kd.R_below (Kd.R_alloc (Kd.R_alloc (Kd.R_alloc HO3.out _) _) _) hb4) (.cells #[.slice A8 1 c8, .slice none 0 0, .int .i64 1, .slice (some ⟨ga, 0, none⟩) 1 1, .slice (some ⟨gb, 0, none⟩) 1 1] 55)); have B4 := Aside0.mk (below_step (below_alloc (below_alloc (below_alloc B3.out _) _) _) hb4); clear hb4 HO3 B3; obtain ⟨ad, eA, hx⟩ := Kd.at_int (Kd.R_reads' HO4.out).2.2 2 (by omega) (by rw [hw2]; omega); subst eA; rw [hw3] at hx; have hx2 : (w4.alloc (.cells #[.slice A8 1 c8, .slice none 0 0, .int .i64 1, .slice (some ⟨ga, 0, none⟩) 1 1, .slice (some ⟨gb, 0, none⟩) 1 1] 55)).cell? ⟨ad.block, ad.off + 2, none⟩ = some (.int .u8 5) := hx; clear hx)
    | (go_at_call 12; refine (sig_Mean.calls 0 8 false false 2 1 5 11 _ hs_mean).mono ?_; rintro e w6 ⟨rfl, hb6⟩; have B6 := Aside0.mk (below_step (below_alloc B4.out _) hb6); clear hb6))
  go_ret
  exact ⟨rfl, B6.out⟩
end
def phaetontop_head16.f : Option Bool := some true
theorem phaetontop_head16.calls (r : Bool) (w : World) (h : phaetontop_head16.f = some r) : Calls Try.prog 4 #[] w fun e w' => e = .returned (.bool r) ∧ Below w.heap.size w w' := by
  obtain rfl : true = r := Option.some.inj h
  exact hs_head4 w

/-! ### trust_New: function 5 -/
def trust_New.f  : Option (Bool × Int × Int × Int) := some (false, 0, 0, 0)
set_option maxHeartbeats 8000000 in
set_option maxRecDepth 100000 in
theorem trust_New.calls  (r1 : Bool) (r2 : Int) (r3 : Int) (r4 : Int) (w : World) (h : trust_New.f  = some (r1, r2, r3, r4)) :
    Calls Try.prog 5 #[] w fun e w' => e = .returned (.agg #[.bool r1, .int .i64 r2, .int .i64 r3, .int .i64 r4]) ∧ Below w.heap.size w w' := by
  have hu27 := Try.underlying27
  have HB := Aside0.mk (Below.refl w.heap.size w)
  have H : (some (false, 0, 0, 0)) = some (r1, r2, r3, r4) := h
  clear h
  simp only [Option.some.injEq, Prod.mk.injEq] at H
  obtain ⟨rfl, rfl, rfl, rfl⟩ := H
  go_enter Try.func5, Try.ntmps5
  go_wp2_with (first | ((with_reducible refine gate_store (t := 27) (p := 0) rfl ?_); refine HW.store_box2 rfl rfl 27 _ _ rfl rfl rfl BK144.out rfl (by kernel_rfl) (by intro q hq; simp only [List.mem_cons, List.not_mem_nil, or_false] at hq; rcases hq with rfl | rfl | rfl | rfl <;> rfl) ?_; intro w1_ hw1_ hk1_; simp only [List.toList_toArray, World.setCells, Nat.zero_add, Nat.reduceAdd] at hw1_; subst hw1_; have hcb144_0 := (blk_cell hk1_ 0).trans rfl; have hfb144_0 := blk_frozen hk1_ 0; have hcb144_1 := (blk_cell hk1_ 1).trans rfl; have hfb144_1 := blk_frozen hk1_ 1; have hcb144_2 := (blk_cell hk1_ 2).trans rfl; have hfb144_2 := blk_frozen hk1_ 2; have hcb144_3 := (blk_cell hk1_ 3).trans rfl; have hfb144_3 := blk_frozen hk1_ 3; clear hk1_) | ((with_reducible refine gate_dst (N := 0) rfl ?_); refine box_event ?hg (N := 0) ?hd (cs := #[.bool false, .int .i64 0, .int .i64 0, .int .i64 0]) (t := 27) ?hr ?_; (case hd => rfl); (case hg => rfl); (case hr => first | (go_simp; done) | (go_simp; rfl)); intro gb144 hg w1 hbox hb; have n0_ := Aside0.mk (below_step (by repeat (first | (with_reducible first | exact HB.out | apply below_alloc | apply pw_below_drewN | apply below_drew1) | exact HB.out)) hb); have n1_ := Aside0.mk (hbox); have n2_ := Aside0.mk ((by rw [hg]; exact (below_size (by repeat (first | (with_reducible first | exact HB.out | apply below_alloc | apply pw_below_drewN | apply below_drew1) | exact HB.out))) : w.heap.size ≤ gb144)); have n3_ := Aside0.mk ((by rw [hg]; exact (below_size (by repeat (first | (with_reducible first | exact HB.out | apply below_alloc | apply pw_below_drewN | apply below_drew1) | exact HB.out))) : w.heap.size ≤ gb144)); clear HB; have HB := n0_; have BK144 := n1_; have GW144 := n2_; have GE144 := n3_; clear n0_ n1_ n2_ n3_; clear hb hbox hg; have hcz2_0 : w1.cell? ⟨gb144, 0, none⟩ = some (.bool false) := (blk_cell BK144.out 0).trans rfl; have hcz2_1 : w1.cell? ⟨gb144, 1, none⟩ = some (.int .i64 0) := (blk_cell BK144.out 1).trans rfl; have hcz2_2 : w1.cell? ⟨gb144, 2, none⟩ = some (.int .i64 0) := (blk_cell BK144.out 2).trans rfl; have hcz2_3 : w1.cell? ⟨gb144, 3, none⟩ = some (.int .i64 0) := (blk_cell BK144.out 3).trans rfl; have hfz2_0 := blk_frozen BK144.out 0; have hfz2_1 := blk_frozen BK144.out 1; have hfz2_2 := blk_frozen BK144.out 2; have hfz2_3 := blk_frozen BK144.out 3))
  refine bodyPost_ret (results_cell_row rfl _ _ gb144 27 #[.bool false, .int .i64 0, .int .i64 0, .int .i64 0] (0, 0) _ rfl (by (with_reducible repeat (first | refine blk_drewN ?_ _ | refine blk_drew ?_ | refine blk_alloc ?_ _)); refine blk_put (cs := #[.bool false, .int .i64 0, .int .i64 0, .int .i64 0]) ?_ 3 _ rfl; (with_reducible repeat (first | refine blk_drewN ?_ _ | refine blk_drew ?_ | refine blk_alloc ?_ _)); refine blk_put (cs := #[.bool false, .int .i64 0, .int .i64 0, .int .i64 0]) ?_ 2 _ rfl; (with_reducible repeat (first | refine blk_drewN ?_ _ | refine blk_drew ?_ | refine blk_alloc ?_ _)); refine blk_put (cs := #[.bool false, .int .i64 0, .int .i64 0, .int .i64 0]) ?_ 1 _ rfl; (with_reducible repeat (first | refine blk_drewN ?_ _ | refine blk_drew ?_ | refine blk_alloc ?_ _)); refine blk_put (cs := #[.bool false, .int .i64 0, .int .i64 0, .int .i64 0]) ?_ 0 _ rfl; (with_reducible repeat (first | refine blk_drewN ?_ _ | refine blk_drew ?_ | refine blk_alloc ?_ _)); exact BK144.out) Try.underlying27 rfl (by kernel_rfl)) rfl ?_
  exact ⟨by first | rfl | (simp [errW_none, errW_some] <;> rfl) | (simp [*, errW_none, errW_some] <;> rfl), by repeat (first | (with_reducible first | exact HB.out | apply below_alloc | apply pw_below_drewN | apply below_drew1 | refine below_set ?_ GE144.out) | exact HB.out)⟩

/-! ### bytes_Clone: function 31 -/
def bytes_Clone.f (l0 : List Int) : Option (List Int) := if l0.length < 140737488355328 then some l0 else none
set_option maxHeartbeats 1600000 in
set_option maxRecDepth 100000 in
theorem bytes_Clone.calls (A0 : Option Addr) (c0 : Nat) (l0 : List Int) (r : List Int) (w : World) (hr0 : Kd.C (Kd.int .u8) w A0 l0.length l0) (hc0 : l0.length ≤ c0) (h : bytes_Clone.f l0 = some r) :
    Calls Try.prog 31 #[.slice A0 l0.length c0] w fun e w' => ∃ v0_ : Value, e = .returned v0_ ∧ Kd.R (Kd.int .u8) 5 w' w.heap.size (fun _ => True) v0_ r ∧ Below w.heap.size w w' := by
  unfold bytes_Clone.f at h
  by_cases hle : l0.length < 140737488355328
  case neg => rw [if_neg hle] at h; cases h
  rw [if_pos hle] at h
  obtain rfl := Option.some.inj h
  clear h
  have HR0 := Aside0.mk hr0
  have HC0 := Aside0.mk hc0
  clear hr0 hc0
  have HL := Aside0.mk hle
  clear hle
  have qE : ∀ (d : Nat) (w : World) (a : Option Addr) (n c : Nat), (Op.equalIn (d + 1) 29 (.slice a n c) (.slice none 0 0)).run Try.prog w = .ok a.isNone w := fun d w a n c => by
    cases a <;> simp [Op.equalIn, run_underlying Try.underlying29]
  have qT : ∀ (w : World) (a : Option Addr) (n c : Nat), (binOp .eql 29 (.slice a n c) (.slice none 0 0)).run Try.prog w = .ok (.bool a.isNone) w := fun w a n c => by
    simp only [binOp]
    simp [Op.equal, Op.maxDepth, qE 9999 w a n c]
  cases A0 with
  | none =>
    have hn : l0 = [] := by
      by_cases c : 0 < l0.length
      · obtain ⟨ad, e, _⟩ := Kd.at_int HR0.out 0 (by omega) (by omega)
        cases e
      · exact List.eq_nil_of_length_eq_zero (by omega)
    subst hn
    go_enter Try.func31, Try.ntmps31
    go_wp2
    go_ret
    exact ⟨_, rfl, Kd.R_nil _ _ _ _ _, Below.refl _ _⟩
  | some ad =>
    have HB := Aside0.mk (Below.refl w.heap.size w)
    go_enter Try.func31, Try.ntmps31
    go_wp2_with (first | ((with_reducible refine gate_dst (N := 5) rfl ?_); refine Kd.R_lit (Kd.int .u8) _ 5 ?hg (N := 5) ?hd (xs := ([] : List Int)) (inner := []) (ok := fun _ => True) (okp := fun _ => True) ?hr ?hp (fun _ hk => hk) trivial (Below.refl _ _) (Nat.le_refl _) (by simp) ?_; (case hd => rfl); (case hg => rfl); (case hr => first | (go_simp; done) | (go_simp; rfl)); (case hp => exact (Reps.none _ _)); intro v138 w2 ho3 hb hg_ hnew_; clear hg_ hnew_; have HO := Aside0.mk ho3; have HB2 := Aside0.mk hb; clear ho3 hb) | ((with_reducible refine gate_builtin (b := .append) (xs := #[.tmp 5, .tmp 6]) rfl ?_); (try (refine gate_guard (by rfl) ?_; dsimp only)); at_builtin; refine Kd.R_append_rows (Kd.int .u8) (w0 := w) w.heap.size rfl (.tmp 5) (.tmp 6) 29 5 (.int .u8 0) 1 rfl Try.underlying29 info5 rfl (by decide) (by omega) v138 [] l0 _ _ _ (fun _ => True) (fun _ => False) rfl rfl ?aO ?aR (fun _ _ h => h) (fun _ h => h.elim) ?aF ?aB ?aS ?aL ?_; (case aR => exact Kd.C_below HR0.out HB2.out); (case aB => exact HB2.out); (case aF => exact (fun _ _ => trivial)); (case aO => exact HO.out); (case aS => exact below_size HB2.out); (case aL => have := HL.out; simp; omega); intro v276 w24 ho hb hg hat; have HO2 := Aside0.mk ho; have HB3 := Aside0.mk hb; clear ho hb hg hat))
    go_ret
    exact ⟨_, rfl, HO2.out, HB3.out⟩

end Go.Proofs.Ytfbmgflkfpppmaa.Px

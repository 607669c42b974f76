-- Written by myprint.py, a program of this session's, over the kit's print.py; not a text of print.sh's own.
import Derived.Test.YtiphbgcmbbfpmaaHandBox
import Derived.Test.YtiphbgcmbbfpmaaPx0
import Derived.Test.YtiphbgcmbbfpmaaPx1
import Derived.Test.YtiphbgcmbbfpmaaPx2
import Derived.Test.YtiphbgcmbbfpmaaPx4
import Derived.Test.YtiphbgcmbbfpmaaPx6
import Derived.Test.YtiphbgcmbbfpmaaPx10
namespace Go.Proofs.Ytiphbgcmbbfpmaa.Px
open Go.RowKit Go.Proofs.YtiphbgcmbbfpmaaW.PrintWords Go.Proofs.YtiphbgcmbbfpmaaW.PrintLast Go.Proofs.YtiphbgcmbbfpmaaW.PrintMore
attribute [local go_sem] max2_int min2_int max_two min_two max_three min_three max_four min_four   -- for this text's walks alone
set_option linter.unusedVariables false
set_option linter.unusedSimpArgs false

/-! ### phaetonlaw04_FrameBits: function 5 -/
def phaetonlaw04_FrameBits.j0 : Nat → List Int → Bool → Bool → Option (Bool)
  | 0, _, _, _ => none
  | k + 1, x0, x3, x15 => if x15 = true then (if x3 = true then (some true) else (none)) else ((frame_Read.f x0).bind fun bt443 => (if bt443.2.2.2.2.2.2 = 0 then (if x3 = true then ((frame_Right.f bt443.1 bt443.2.1 bt443.2.2.1 bt443.2.2.2.1 bt443.2.2.2.2.1).bind fun t453 => (if t453 = true then (if bt443.2.2.2.2.2.1 ≥ 0 then (if bt443.2.2.2.2.2.1 ≤ (x0.length : Int) then ((frame_Head.f bt443.1 bt443.2.1 bt443.2.2.1 bt443.2.2.2.1 bt443.2.2.2.2.1).bind fun t454 => (if 0 ≤ bt443.2.2.2.2.2.1 then ((phaetonref01_Same.f k t454 (x0.take (bt443.2.2.2.2.2.1 : Int).toNat)).bind fun t458 => (if t458 = true then (some true) else (none))) else (none))) else (none)) else (none)) else (none))) else (none)) else (if x3 = true then ((phaetonref04_Same.f bt443.1 bt443.2.1 bt443.2.2.1 bt443.2.2.2.1 bt443.2.2.2.2.1 false 0 false 0 ([] : List Int)).bind fun t459 => (if t459 = true then (if bt443.2.2.2.2.2.1 = 0 then (if bt443.2.2.2.2.2.2 = 40 then (some true) else (if bt443.2.2.2.2.2.2 = 42 then (some true) else (if bt443.2.2.2.2.2.2 = 41 then (some true) else (none)))) else (none)) else (none))) else (none))))
def phaetonlaw04_FrameBits.f (k : Nat) (l0 : List Int) : Option (Bool) := (phaetonlaw04_head.f k).bind fun t441 => (if (l0.length : Int) > 500 then (phaetonlaw04_FrameBits.j0 k l0 t441 true) else ((phaetonref01_Right.f k l0).bind fun t442 => (phaetonlaw04_FrameBits.j0 k l0 t441 (!t442))))
theorem phaetonlaw04_FrameBits.mono_l : ∀ k, (∀ y0 y1 y2, LeO (phaetonlaw04_FrameBits.j0 k y0 y1 y2) (phaetonlaw04_FrameBits.j0 (k + 1) y0 y1 y2))
  | 0 => fun _ _ _ r h => by simp [phaetonlaw04_FrameBits.j0] at h
  | k + 1 => by
    have ih0 := phaetonlaw04_FrameBits.mono_l k
    · intro y0 y1 y2
      unfold phaetonlaw04_FrameBits.j0
      repeat' first
      | (with_reducible exact ih0 _ _ _)
      | (with_reducible exact phaetonlaw04_head.mono _)
      | (with_reducible exact phaetonref01_Right.mono _ _)
      | (with_reducible exact phaetonref01_Same.mono _ _ _)
      | (with_reducible exact LeO.refl _)
      | (with_reducible exact LeO.none _)
      | (with_reducible refine LeO.ite ?_ ?_)
      | (with_reducible refine LeO.bind ?_ (fun _ => ?_))
      | exact ih0 _ _ _
      | exact phaetonlaw04_head.mono _
      | exact phaetonref01_Right.mono _ _
      | exact phaetonref01_Same.mono _ _ _
      | exact LeO.none _
      | refine LeO.ite ?_ ?_
      | refine LeO.bind ?_ (fun _ => ?_)
theorem phaetonlaw04_FrameBits.mono : ∀ a0 k, LeO (phaetonlaw04_FrameBits.f k a0) (phaetonlaw04_FrameBits.f (k + 1) a0) := by
  intro a0 k
  have ih0 := phaetonlaw04_FrameBits.mono_l k
  unfold phaetonlaw04_FrameBits.f
  repeat' first
      | (with_reducible exact ih0 _ _ _)
      | (with_reducible exact phaetonlaw04_head.mono _)
      | (with_reducible exact phaetonref01_Right.mono _ _)
      | (with_reducible exact phaetonref01_Same.mono _ _ _)
      | (with_reducible exact LeO.refl _)
      | (with_reducible exact LeO.none _)
      | (with_reducible refine LeO.ite ?_ ?_)
      | (with_reducible refine LeO.bind ?_ (fun _ => ?_))
      | exact ih0 _ _ _
      | exact phaetonlaw04_head.mono _
      | exact phaetonref01_Right.mono _ _
      | exact phaetonref01_Same.mono _ _ _
      | exact LeO.none _
      | refine LeO.ite ?_ ?_
      | refine LeO.bind ?_ (fun _ => ?_)
def phaetonlaw04_FrameBits.T7 : Bool × List (List Nat × List Nat) := (true, [([], []), ([0], [0]), ([1], [1]), ([2, 1, 1], [1, 2]), ([1, 3], [1, 3]), ([4, 3], [4]), ([5], [5]), ([6, 5], [5, 6]), ([5, 7], [5, 7]), ([8, 5], [8]), ([9], [9]), ([9], [9]), ([11, 9], [9, 11]), ([10, 12, 9], [9, 10, 12]), ([9, 13], [9, 13]), ([14, 9], [14]), ([15], [15]), ([16, 15, 15], [15, 16]), ([15], [15]), ([15], [15]), ([18, 19, 15], [15, 18, 19]), ([17, 20, 17, 15], [15, 17, 20]), ([15, 21], [15, 21]), ([22, 21, 0, 1, 2, 3, 4, 5, 6, 7, 8, 9, 10, 11, 12, 13, 14, 15, 16, 17, 18, 19, 20, 21, 22], [22])])
def phaetonlaw04_FrameBits.B7 : List Nat := [0, 1, 3, 7, 15, 31, 63, 127, 255, 511, 1023, 1023, 3071, 8191, 16383, 32767, 65535, 131071, 65535, 65535, 851967, 2097151, 4194303, 8388607]
theorem phaetonlaw04_FrameBits.tab7 : rtab .any (opsOf Try.f5 7) = phaetonlaw04_FrameBits.T7 := by kernel_rfl
theorem phaetonlaw04_FrameBits.bits7 : waitsOk phaetonlaw04_FrameBits.T7.2 phaetonlaw04_FrameBits.B7 = true := by kernel_rfl
set_option maxHeartbeats 8000000 in
set_option maxRecDepth 100000 in
theorem phaetonlaw04_FrameBits.calls (k : Nat) (A0 : Option Addr) (c0 : Nat) (l0 : List Int) (r : Bool) (w : World) (hr0 : Kd.C (Kd.int .i64) w A0 l0.length l0) (hc0 : l0.length ≤ c0) (h : phaetonlaw04_FrameBits.f k l0 = some r) :
    Calls Try.prog 5 #[.slice A0 l0.length c0] w fun e w' => e = .returned (.bool r) ∧ Below w.heap.size w w' := by
  have hu24 := Try.underlying24
  have HR0 := Aside0.mk hr0
  have HC0 := Aside0.mk hc0
  clear hr0 hc0
  have HB := Aside0.mk (Below.refl w.heap.size w)
  have H : ((phaetonlaw04_head.f k).bind fun t441 => (if (l0.length : Int) > 500 then (phaetonlaw04_FrameBits.j0 k l0 t441 true) else ((phaetonref01_Right.f k l0).bind fun t442 => (phaetonlaw04_FrameBits.j0 k l0 t441 (!t442))))) = some r := h
  clear h
  replace H := Option.bind_eq_some_iff.mp H
  obtain ⟨t441, A20, H⟩ := H
  replace H : (if (l0.length : Int) > 500 then (phaetonlaw04_FrameBits.j0 k l0 t441 true) else ((phaetonref01_Right.f k l0).bind fun t442 => (phaetonlaw04_FrameBits.j0 k l0 t441 (!t442)))) = some r := H
  have A2 := Aside0.mk A20
  clear A20
  have HC3 := Aside0.mk H
  clear H
  go_enter Try.func5, Try.ntmps5
  (try simp only [List.append])
  go_upto_region 2 with (first | ((with_reducible refine gate_callee (f := 10) rfl ?_); refine goesL_ (some 7) rfl rfl Try.func10 (by kernel_rfl) rfl #[] rfl (by (try simp only [List.map_toArray, List.map_cons, List.map_nil]); first | done | rfl | (simp only [List.length_drop, List.length_take]; rfl)) ?_; (with_reducible refine (phaetonlaw04_head.calls k  t441 _ A2.out).mono ?_); rintro e w4 ⟨rfl, hb⟩; refine ⟨_, rfl, ?_⟩; have n0_ := Aside0.mk (below_step (by repeat (first | (with_reducible first | exact HB.out | apply below_alloc | apply pw_below_drewN | apply below_drew1) | exact HB.out)) hb); clear HB; have HB := n0_; clear n0_; (try clear hb); (try clear hb2); (try clear hk); (try clear hi)))
  (try simp only [Act.put, List.setIfInBounds_toArray, List.set_cons_zero, List.set_cons_succ])
  go_cut [15] (fun v15 wc => ∃ (kq : Nat) (x15_2 : Bool), v15 = .bool x15_2 ∧ Aside0 (phaetonlaw04_FrameBits.j0 kq l0 t441 x15_2 = some r) ∧ Aside0 (kq ≤ k) ∧ Aside0 (Below w.heap.size w wc))
  case first =>
    have H := HC3.out
    clear HC3
    by_cases c5 : (l0.length : Int) > 500
    · rw [if_pos c5] at H
      have c5b0 : decide (500 < (l0.length : Int)) = true := decide_eq_true c5
      have c5b1 : decide (500 < l0.length) = true := decide_eq_true (by omega)
      clear c5
      (first | rw [c5b0] | (simp only [i64_w, i32_w]; rw [c5b0]) | skip)
      have H' := Aside0.mk H
      clear H
      go_wp2
      go_meet
      case rel => exact ⟨_, (true), (by first | rfl | (simp; done) | (simp [*]; done)), H', ⟨by first | omega | exact Nat.le_refl _⟩, ⟨by repeat (first | (with_reducible first | exact HB.out | apply below_alloc | apply pw_below_drewN | apply below_drew1) | exact HB.out)⟩⟩
    · rw [if_neg c5] at H
      have c5b0 : decide (500 < (l0.length : Int)) = false := decide_eq_false c5
      have c5b1 : decide (500 < l0.length) = false := decide_eq_false (by omega)
      clear c5
      (first | rw [c5b0] | (simp only [i64_w, i32_w]; rw [c5b0]) | skip)
      replace H := Option.bind_eq_some_iff.mp H
      obtain ⟨t442, A60, H⟩ := H
      replace H : (phaetonlaw04_FrameBits.j0 k l0 t441 (!t442)) = some r := H
      have A6 := Aside0.mk A60
      clear A60
      have H' := Aside0.mk H
      clear H
      go_wp2_with (first | (go_at_call 21; (with_reducible refine (phaetonref01_Right.calls k _ _ l0 t442 _ ?side1 ?side2 A6.out).mono ?_); (case side1 => repeat (first | exact (Kd.C_below HR0.out HB.out) | (with_reducible refine Kd.C_alloc ?_ _) | (with_reducible refine Kd.C_drewN ?_ _) | (with_reducible refine Kd.C_drew ?_))); (case side2 => exact HC0.out); rintro e w' ⟨rfl, ⟨nd, rfl⟩⟩))
      go_meet
      case rel => exact ⟨_, (!t442), (by first | rfl | (simp; done) | (simp [*]; done)), H', ⟨by first | omega | exact Nat.le_refl _⟩, ⟨by repeat (first | (with_reducible first | exact HB.out | apply below_alloc | apply pw_below_drewN | apply below_drew1) | exact HB.out)⟩⟩
  case rest =>
    clear HC3
    try clear c1
    try clear p2
    try clear c5
    try clear c5b0
    try clear c5b1
    obtain ⟨kq, x15_2, rfl, HA, HJ2, HB⟩ := hcut
    cases kq with
    | zero => exact absurd HA.out (by simp [phaetonlaw04_FrameBits.j0])
    | succ kj2 =>
      have H := HA.out
      clear HA
      simp only [phaetonlaw04_FrameBits.j0] at H
      by_cases c7 : x15_2 = true
      · subst c7
        have H1 : (if t441 = true then (some true) else (none)) = some r := by rw [if_pos rfl] at H; exact H
        clear H
        have H := H1
        clear H1
        by_cases c8 : t441 = true
        · subst c8
          have H1 : (some true) = some r := by rw [if_pos rfl] at H; exact H
          clear H
          have H := H1
          clear H1
          obtain rfl := Option.some.inj H
          go_wp2
          go_ret
          exact ⟨by first | rfl | (simp [errW_none, errW_some] <;> rfl) | (simp [*, errW_none, errW_some] <;> rfl), by repeat (first | (with_reducible first | exact HB.out | apply below_alloc | apply pw_below_drewN | apply below_drew1) | exact HB.out)⟩
        · replace c8 := Bool.eq_false_iff.mpr c8
          subst c8
          have H1 : (none) = some r := by rw [if_neg (show ¬ (false = true) by decide)] at H; exact H
          clear H
          have H := H1
          clear H1
          exact absurd H (by simp)
      · replace c7 := Bool.eq_false_iff.mpr c7
        subst c7
        have H1 : ((frame_Read.f l0).bind fun bt443 => (if bt443.2.2.2.2.2.2 = 0 then (if t441 = true then ((frame_Right.f bt443.1 bt443.2.1 bt443.2.2.1 bt443.2.2.2.1 bt443.2.2.2.2.1).bind fun t453 => (if t453 = true then (if bt443.2.2.2.2.2.1 ≥ 0 then (if bt443.2.2.2.2.2.1 ≤ (l0.length : Int) then ((frame_Head.f bt443.1 bt443.2.1 bt443.2.2.1 bt443.2.2.2.1 bt443.2.2.2.2.1).bind fun t454 => (if 0 ≤ bt443.2.2.2.2.2.1 then ((phaetonref01_Same.f kj2 t454 (l0.take (bt443.2.2.2.2.2.1 : Int).toNat)).bind fun t458 => (if t458 = true then (some true) else (none))) else (none))) else (none)) else (none)) else (none))) else (none)) else (if t441 = true then ((phaetonref04_Same.f bt443.1 bt443.2.1 bt443.2.2.1 bt443.2.2.2.1 bt443.2.2.2.2.1 false 0 false 0 ([] : List Int)).bind fun t459 => (if t459 = true then (if bt443.2.2.2.2.2.1 = 0 then (if bt443.2.2.2.2.2.2 = 40 then (some true) else (if bt443.2.2.2.2.2.2 = 42 then (some true) else (if bt443.2.2.2.2.2.2 = 41 then (some true) else (none)))) else (none)) else (none))) else (none)))) = some r := by rw [if_neg (show ¬ (false = true) by decide)] at H; exact H
        clear H
        have H := H1
        clear H1
        replace H := Option.bind_eq_some_iff.mp H
        obtain ⟨⟨t443, t444, t445, t446, t447, t450, t451⟩, A90, H⟩ := H
        replace H : (if t451 = 0 then (if t441 = true then ((frame_Right.f t443 t444 t445 t446 t447).bind fun t453 => (if t453 = true then (if t450 ≥ 0 then (if t450 ≤ (l0.length : Int) then ((frame_Head.f t443 t444 t445 t446 t447).bind fun t454 => (if 0 ≤ t450 then ((phaetonref01_Same.f kj2 t454 (l0.take (t450 : Int).toNat)).bind fun t458 => (if t458 = true then (some true) else (none))) else (none))) else (none)) else (none)) else (none))) else (none)) else (if t441 = true then ((phaetonref04_Same.f t443 t444 t445 t446 t447 false 0 false 0 ([] : List Int)).bind fun t459 => (if t459 = true then (if t450 = 0 then (if t451 = 40 then (some true) else (if t451 = 42 then (some true) else (if t451 = 41 then (some true) else (none)))) else (none)) else (none))) else (none))) = some r := H
        have A9 := Aside0.mk A90
        clear A90
        by_cases c10 : t451 = 0
        · rw [if_pos c10] at H
          have c10b0 : (t451 == 0) = true := beq_iff_eq.mpr c10
          have c10b1 : (t451 != 0) = false := bne_eq_false_iff_eq.mpr c10
          clear c10
          by_cases c11 : t441 = true
          · subst c11
            have H1 : ((frame_Right.f t443 t444 t445 t446 t447).bind fun t453 => (if t453 = true then (if t450 ≥ 0 then (if t450 ≤ (l0.length : Int) then ((frame_Head.f t443 t444 t445 t446 t447).bind fun t454 => (if 0 ≤ t450 then ((phaetonref01_Same.f kj2 t454 (l0.take (t450 : Int).toNat)).bind fun t458 => (if t458 = true then (some true) else (none))) else (none))) else (none)) else (none)) else (none))) = some r := by rw [if_pos rfl] at H; exact H
            clear H
            have H := H1
            clear H1
            replace H := Option.bind_eq_some_iff.mp H
            obtain ⟨t453, A120, H⟩ := H
            replace H : (if t453 = true then (if t450 ≥ 0 then (if t450 ≤ (l0.length : Int) then ((frame_Head.f t443 t444 t445 t446 t447).bind fun t454 => (if 0 ≤ t450 then ((phaetonref01_Same.f kj2 t454 (l0.take (t450 : Int).toNat)).bind fun t458 => (if t458 = true then (some true) else (none))) else (none))) else (none)) else (none)) else (none)) = some r := H
            have A12 := Aside0.mk A120
            clear A120
            by_cases c13 : t453 = true
            · subst c13
              have H1 : (if t450 ≥ 0 then (if t450 ≤ (l0.length : Int) then ((frame_Head.f t443 t444 t445 t446 t447).bind fun t454 => (if 0 ≤ t450 then ((phaetonref01_Same.f kj2 t454 (l0.take (t450 : Int).toNat)).bind fun t458 => (if t458 = true then (some true) else (none))) else (none))) else (none)) else (none)) = some r := by rw [if_pos rfl] at H; exact H
              clear H
              have H := H1
              clear H1
              by_cases c14 : t450 ≥ 0
              · rw [if_pos c14] at H
                have c14b0 : decide (0 ≤ t450) = true := decide_eq_true c14
                clear c14
                by_cases c15 : t450 ≤ (l0.length : Int)
                · rw [if_pos c15] at H
                  have c15b0 : decide (t450 ≤ (l0.length : Int)) = true := decide_eq_true c15
                  clear c15
                  replace H := Option.bind_eq_some_iff.mp H
                  obtain ⟨t454, A160, H⟩ := H
                  replace H : (if 0 ≤ t450 then ((phaetonref01_Same.f kj2 t454 (l0.take (t450 : Int).toNat)).bind fun t458 => (if t458 = true then (some true) else (none))) else (none)) = some r := H
                  have A16 := Aside0.mk A160
                  clear A160
                  by_cases c17 : 0 ≤ t450
                  · rw [if_pos c17] at H
                    have c17b0 := eq_true c17
                    have c17b1 : decide (0 ≤ t450) = true := decide_eq_true c17
                    clear c17
                    have c18b0 := eq_true (of_decide_eq_true (by first | (with_reducible assumption) | assumption) : t450 ≤ (l0.length : Int))
                    replace H := Option.bind_eq_some_iff.mp H
                    obtain ⟨t458, A190, H⟩ := H
                    replace H : (if t458 = true then (some true) else (none)) = some r := H
                    have A19 := Aside0.mk A190
                    clear A190
                    by_cases c20 : t458 = true
                    · subst c20
                      have H1 : (some true) = some r := by rw [if_pos rfl] at H; exact H
                      clear H
                      have H := H1
                      clear H1
                      obtain rfl := Option.some.inj H
                      obtain ⟨i029, hi029, _, hsz29, _⟩ := info_parts info3
                      obtain ⟨hcut29, hA29, hC29⟩ := print_take_of (P := Try.prog) (Value.int .i64) 0 25 3 .i64 Try.underlying25 hi029 hsz29 A0 c0 l0 t450 (of_decide_eq_true (by first | (with_reducible assumption) | assumption)) (of_decide_eq_true (by first | (with_reducible assumption) | assumption)) HC0.out
                      have HR457 := Aside0.mk (Kd.C_of_reads (h1 := fun _ => rfl) (hA29 _ (Kd.reads_of_C HR0.out)))
                      have HC457 := Aside0.mk hC29
                      clear hA29 hC29 hi029 hsz29
                      try go_wp2_with (first | ((with_reducible refine gate_store (t := 24) (p := 4) rfl ?_); refine HW.store_box2 rfl rfl 24 _ _ rfl rfl rfl BK452.out rfl (by kernel_rfl) (by intro q hq; simp only [List.mem_cons, List.not_mem_nil, or_false] at hq; rcases hq with rfl | rfl | rfl | rfl | rfl <;> rfl) ?_; intro w1_ hw1_ hk1_; simp only [List.toList_toArray, World.setCells, Nat.zero_add, Nat.reduceAdd] at hw1_; subst hw1_; have hcb452_0 := (blk_cell hk1_ 0).trans rfl; have hfb452_0 := blk_frozen hk1_ 0; have hcb452_1 := (blk_cell hk1_ 1).trans rfl; have hfb452_1 := blk_frozen hk1_ 1; have hcb452_2 := (blk_cell hk1_ 2).trans rfl; have hfb452_2 := blk_frozen hk1_ 2; have hcb452_3 := (blk_cell hk1_ 3).trans rfl; have hfb452_3 := blk_frozen hk1_ 3; have hcb452_4 := (blk_cell hk1_ 4).trans rfl; have hfb452_4 := blk_frozen hk1_ 4; clear hk1_) | ((with_reducible refine gate_callee (f := 22) rfl ?_); refine goesL_ (some 19) rfl rfl Try.func22 (by kernel_rfl) rfl #[.slice A0 l0.length c0] rfl (by (try simp only [List.map_toArray, List.map_cons, List.map_nil]); first | done | rfl | (simp only [List.length_drop, List.length_take]; rfl)) ?_; (with_reducible refine (frame_Read.calls _ _ l0 t443 t444 t445 t446 t447 t450 t451 _ ?side1 ?side2 A9.out).mono ?_); (case side1 => repeat (first | exact (Kd.C_below HR0.out HB.out) | (with_reducible refine Kd.C_alloc ?_ _) | (with_reducible refine Kd.C_drewN ?_ _) | (with_reducible refine Kd.C_drew ?_))); (case side2 => exact HC0.out); rintro e w21 ⟨v448, rfl, ho0, hb⟩; refine ⟨_, rfl, ?_⟩; have n0_ := Aside0.mk (Kd.R_lower ho0 (below_size (by repeat (first | (with_reducible first | exact HB.out | apply below_alloc | apply pw_below_drewN | apply below_drew1) | exact HB.out)))); have n1_ := Aside0.mk (below_step (by repeat (first | (with_reducible first | exact HB.out | apply below_alloc | apply pw_below_drewN | apply below_drew1) | exact HB.out)) hb); clear HB; have HO449 := n0_; have HB := n1_; clear n0_ n1_; (try clear hb); (try clear hb2); (try clear hk); (try clear hi); (try clear ho0)) | ((with_reducible refine gate_dst (N := 4) rfl ?_); (try (refine gate_guard (by rfl) ?_; dsimp only)); refine box_event ?hg (N := 4) ?hd (cs := #[.bool false, .int .i64 0, .bool false, .int .i64 0, .slice none 0 0]) (t := 24) ?hr ?_; (case hd => rfl); (case hg => rfl); (case hr => first | (go_simp; done) | (go_simp; rfl)); intro gb452 hg w22 hbox hb; have n0_ := Aside0.mk (Kd.R_below (by (with_reducible repeat (first | apply Kd.R_alloc | apply Kd.R_drewN | apply Kd.R_drew)); exact HO449.out) hb); have n1_ := Aside0.mk (below_step (by repeat (first | (with_reducible first | exact HB.out | apply below_alloc | apply pw_below_drewN | apply below_drew1) | exact HB.out)) hb); have n2_ := Aside0.mk (hbox); have n3_ := Aside0.mk ((by rw [hg]; exact (below_size (by repeat (first | (with_reducible first | exact HB.out | apply below_alloc | apply pw_below_drewN | apply below_drew1) | exact HB.out))) : w.heap.size ≤ gb452)); have n4_ := Aside0.mk ((by rw [hg]; exact (below_size (by repeat (first | (with_reducible first | exact HB.out | apply below_alloc | apply pw_below_drewN | apply below_drew1) | exact HB.out))) : w.heap.size ≤ gb452)); clear HO449; clear HB; have HO449 := n0_; have HB := n1_; have BK452 := n2_; have GW452 := n3_; have GE452 := n4_; clear n0_ n1_ n2_ n3_ n4_; clear hb hbox hg; have hcz23_0 : w22.cell? ⟨gb452, 0, none⟩ = some (.bool false) := (blk_cell BK452.out 0).trans rfl; have hcz23_1 : w22.cell? ⟨gb452, 1, none⟩ = some (.int .i64 0) := (blk_cell BK452.out 1).trans rfl; have hcz23_2 : w22.cell? ⟨gb452, 2, none⟩ = some (.bool false) := (blk_cell BK452.out 2).trans rfl; have hcz23_3 : w22.cell? ⟨gb452, 3, none⟩ = some (.int .i64 0) := (blk_cell BK452.out 3).trans rfl; have hcz23_4 : w22.cell? ⟨gb452, 4, none⟩ = some (.slice none 0 0) := (blk_cell BK452.out 4).trans rfl; have hfz23_0 := blk_frozen BK452.out 0; have hfz23_1 := blk_frozen BK452.out 1; have hfz23_2 := blk_frozen BK452.out 2; have hfz23_3 := blk_frozen BK452.out 3; have hfz23_4 := blk_frozen BK452.out 4; obtain ⟨Ao24, co24, eo24⟩ := Kd.R_slice HO449.out; subst eo24))
                      have n0_ : Aside0 (Kd.R (Kd.int .u8) 5 (((((w22.setCell ⟨gb452, 0, none⟩ (.bool t443)).setCell ⟨gb452, 1, none⟩ (.int .i64 t444)).setCell ⟨gb452, 2, none⟩ (.bool t445)).setCell ⟨gb452, 3, none⟩ (.int .i64 t446)).setCell ⟨gb452, 4, none⟩ (.slice Ao24 t447.length co24)) w.heap.size (fun _ => True) (.slice Ao24 t447.length co24) t447) := ⟨by (with_reducible repeat (first | apply Kd.R_alloc | apply Kd.R_drewN | apply Kd.R_drew)); exact Kd.R_mono (Kd.R_far (p := ⟨gb452, 4, none⟩) (Kd.R_far (p := ⟨gb452, 3, none⟩) (Kd.R_far (p := ⟨gb452, 2, none⟩) (Kd.R_far (p := ⟨gb452, 1, none⟩) (Kd.R_far (p := ⟨gb452, 0, none⟩) (Kd.R_types HO449.out BK452.out (by decide)) (fun _ hk => hk.2) (.bool t443)) (fun _ hk => hk.2) (.int .i64 t444)) (fun _ hk => hk.2) (.bool t445)) (fun _ hk => hk.2) (.int .i64 t446)) (fun _ hk => hk.2) (.slice Ao24 t447.length co24)) (fun _ hk => trivial)⟩
                      have n1_ : Aside0 ((((((w22.setCell ⟨gb452, 0, none⟩ (.bool t443)).setCell ⟨gb452, 1, none⟩ (.int .i64 t444)).setCell ⟨gb452, 2, none⟩ (.bool t445)).setCell ⟨gb452, 3, none⟩ (.int .i64 t446)).setCell ⟨gb452, 4, none⟩ (.slice Ao24 t447.length co24)).heap[gb452]? = some (.cells #[.bool t443, .int .i64 t444, .bool t445, .int .i64 t446, .slice Ao24 t447.length co24] 24 (0, 0))) := ⟨by (with_reducible repeat (first | refine blk_drewN ?_ _ | refine blk_drew ?_ | refine blk_alloc ?_ _)); refine blk_put (cs := #[.bool t443, .int .i64 t444, .bool t445, .int .i64 t446, .slice none 0 0]) ?_ 4 _ rfl; (with_reducible repeat (first | refine blk_drewN ?_ _ | refine blk_drew ?_ | refine blk_alloc ?_ _)); refine blk_put (cs := #[.bool t443, .int .i64 t444, .bool t445, .int .i64 0, .slice none 0 0]) ?_ 3 _ rfl; (with_reducible repeat (first | refine blk_drewN ?_ _ | refine blk_drew ?_ | refine blk_alloc ?_ _)); refine blk_put (cs := #[.bool t443, .int .i64 t444, .bool false, .int .i64 0, .slice none 0 0]) ?_ 2 _ rfl; (with_reducible repeat (first | refine blk_drewN ?_ _ | refine blk_drew ?_ | refine blk_alloc ?_ _)); refine blk_put (cs := #[.bool t443, .int .i64 0, .bool false, .int .i64 0, .slice none 0 0]) ?_ 1 _ rfl; (with_reducible repeat (first | refine blk_drewN ?_ _ | refine blk_drew ?_ | refine blk_alloc ?_ _)); refine blk_put (cs := #[.bool false, .int .i64 0, .bool false, .int .i64 0, .slice none 0 0]) ?_ 0 _ rfl; (with_reducible repeat (first | refine blk_drewN ?_ _ | refine blk_drew ?_ | refine blk_alloc ?_ _)); exact BK452.out⟩
                      have n2_ : Aside0 (Below w.heap.size w (((((w22.setCell ⟨gb452, 0, none⟩ (.bool t443)).setCell ⟨gb452, 1, none⟩ (.int .i64 t444)).setCell ⟨gb452, 2, none⟩ (.bool t445)).setCell ⟨gb452, 3, none⟩ (.int .i64 t446)).setCell ⟨gb452, 4, none⟩ (.slice Ao24 t447.length co24))) := ⟨by repeat (first | (with_reducible first | exact HB.out | apply below_alloc | apply pw_below_drewN | apply below_drew1 | refine below_set ?_ GE452.out) | exact HB.out)⟩
                      (try clear HO449)
                      (try clear BK452)
                      (try clear HB)
                      generalize (((((w22.setCell ⟨gb452, 0, none⟩ (.bool t443)).setCell ⟨gb452, 1, none⟩ (.int .i64 t444)).setCell ⟨gb452, 2, none⟩ (.bool t445)).setCell ⟨gb452, 3, none⟩ (.int .i64 t446)).setCell ⟨gb452, 4, none⟩ (.slice Ao24 t447.length co24)) = w25 at n0_ n1_ n2_ ⊢
                      have HO449 := n0_
                      have BK452 := n1_
                      have HB := n2_
                      clear n0_ n1_ n2_
                      have n0_ := Aside0.mk (Kd.R_drew HO449.out)
                      have n1_ := Aside0.mk (blk_drew BK452.out)
                      have n2_ := Aside0.mk (below_drew1 HB.out)
                      clear HO449
                      clear BK452
                      clear HB
                      have HO449 := n0_
                      have BK452 := n1_
                      have HB := n2_
                      clear n0_ n1_ n2_
                      refine start_ (n := 24) (S := fun w' => w'.cell? ⟨gb452, 0, none⟩ = some (.bool t443) ∧ w'.cell? ⟨gb452, 1, none⟩ = some (.int .i64 t444) ∧ w'.cell? ⟨gb452, 2, none⟩ = some (.bool t445) ∧ w'.cell? ⟨gb452, 3, none⟩ = some (.int .i64 t446) ∧ w'.cell? ⟨gb452, 4, none⟩ = some (.slice Ao24 t447.length co24)) (ds := []) #[false, false, false, false, false, false, false, false, false, false, false, false, false, false, false, false, false, false, false, false, false, false, false, false] (by kernel_rfl) rfl rfl ⟨(blk_cell BK452.out 0).trans rfl, (blk_cell BK452.out 1).trans rfl, (blk_cell BK452.out 2).trans rfl, (blk_cell BK452.out 3).trans rfl, (blk_cell BK452.out 4).trans rfl⟩ (fun hHeld => ?_); refine with_tabW phaetonlaw04_FrameBits.tab7 phaetonlaw04_FrameBits.bits7 (fun HT_ HW_ => ?_)
                      generalize w25.drew = w26 at HO449 BK452 HB hHeld ⊢
                      refine pure_ (i := 0) (N := some 47) (v := ?_) (a' := ?_) #[true, false, false, false, false, false, false, false, false, false, false, false, false, false, false, false, false, false, false, false, false, false, false, false] rfl rfl (any_of HT_.out (by kernel_rfl)) (fun _ _ _ h => h) (Or.inl ⟨by rfl, ?_⟩) ?_ ?_
                      rotate_left
                      · intro w'
                        go_simp
                        with_reducible rfl
                      rotate_left
                      · simp only [Act.put, List.setIfInBounds_toArray, List.set_cons_zero, List.set_cons_succ, i64_w, i32_w]
                        rfl
                      refine pure_ (i := 1) (N := some 48) (v := ?_) (a' := ?_) #[true, true, false, false, false, false, false, false, false, false, false, false, false, false, false, false, false, false, false, false, false, false, false, false] rfl rfl (any_of HT_.out (by kernel_rfl)) (fun _ _ _ h => h) (Or.inl ⟨by rfl, ?_⟩) ?_ ?_
                      rotate_left
                      · intro w'
                        go_simp
                        with_reducible rfl
                      rotate_left
                      · simp only [Act.put, List.setIfInBounds_toArray, List.set_cons_zero, List.set_cons_succ, i64_w, i32_w]
                        rfl
                      refine take_ (i := 2) (N := some 49) (v := ?_) (a' := ?_) #[true, true, true, false, false, false, false, false, false, false, false, false, false, false, false, false, false, false, false, false, false, false, false, false] rfl rfl (take_ofW HT_.out HW_.out (by kernel_rfl)) (fun _ _ _ h => h) (Or.inl ⟨by rfl, ?_⟩) hHeld ?_ ?_
                      rotate_left
                      · rintro w' ⟨s0, s1, s2, s3, s4⟩
                        go_simp
                        with_reducible rfl
                      rotate_left
                      · simp only [Act.put, List.setIfInBounds_toArray, List.set_cons_zero, List.set_cons_succ, i64_w, i32_w]
                        rfl
                      refine one_ (i := 3) (N := some 50) #[true, true, true, true, false, false, false, false, false, false, false, false, false, false, false, false, false, false, false, false, false, false, false, false] rfl rfl (one_of HT_.out (by kernel_rfl)) (by decide) (fun K hK => ?_)
                      refine goes_ Try.func12 (by kernel_rfl) rfl #[.agg #[.bool t443, .int .i64 t444, .bool t445, .int .i64 t446, .slice Ao24 t447.length co24]] (by rfl) rfl rfl (by (try simp only [List.map_toArray, List.map_cons, List.map_nil]); first | done | rfl | (simp only [List.length_drop, List.length_take]; rfl)) ?_
                      with_reducible refine (frame_Right.calls t443 t444 t445 t446 _ _ t447 true _ ?side1 ?side2 A12.out).mono ?_
                      (case side1 => repeat (first | exact (Kd.R_reads' HO449.out).2.2 | (with_reducible refine Kd.C_alloc ?_ _) | (with_reducible refine Kd.C_drewN ?_ _) | (with_reducible refine Kd.C_drew ?_)))
                      (case side2 => exact (Kd.R_reads' HO449.out).2.1)
                      rintro e w27 ⟨rfl, hb⟩
                      refine ⟨_, rfl, ?_⟩
                      have n0_ := Aside0.mk (Kd.R_below (by (with_reducible repeat (first | apply Kd.R_alloc | apply Kd.R_drewN | apply Kd.R_drew)); exact HO449.out) hb)
                      have n1_ := Aside0.mk (blk_below (g := gb452) (o := .cells #[.bool t443, .int .i64 t444, .bool t445, .int .i64 t446, .slice Ao24 t447.length co24] 24 (0, 0)) (by (with_reducible repeat (first | refine blk_drewN ?_ _ | refine blk_drew ?_ | refine blk_alloc ?_ _)); exact BK452.out) hb)
                      have n2_ := Aside0.mk (below_step (by repeat (first | (with_reducible first | exact HB.out | apply below_alloc | apply pw_below_drewN | apply below_drew1 | refine below_set ?_ GE452.out) | exact HB.out)) hb)
                      clear HO449
                      clear BK452
                      clear HB
                      have HO449 := n0_
                      have BK452 := n1_
                      have HB := n2_
                      clear n0_ n1_ n2_
                      (try clear hb)
                      (try clear hb2)
                      (try clear hk)
                      (try clear hi)
                      refine hK.out _ _ ⟨(blk_cell BK452.out 0).trans rfl, (blk_cell BK452.out 1).trans rfl, (blk_cell BK452.out 2).trans rfl, (blk_cell BK452.out 3).trans rfl, (blk_cell BK452.out 4).trans rfl⟩ (fun hHeld => ?_)
                      clear hK K
                      refine norm_ (a' := ?_) ?_ ?_
                      rotate_left
                      · show Act.put _ (some 50) _ = _
                        simp only [Act.put, List.setIfInBounds_toArray, List.set_cons_zero, List.set_cons_succ, i64_w, i32_w]
                        rfl
                      refine pure_ (i := 4) (N := some 51) (v := ?_) (a' := ?_) #[true, true, true, true, true, false, false, false, false, false, false, false, false, false, false, false, false, false, false, false, false, false, false, false] rfl rfl (any_of HT_.out (by kernel_rfl)) (fun _ _ _ h => h) (Or.inl ⟨by rfl, ?_⟩) ?_ ?_
                      rotate_left
                      · intro w'
                        go_simp
                        with_reducible rfl
                      rotate_left
                      · simp only [Act.put, List.setIfInBounds_toArray, List.set_cons_zero, List.set_cons_succ, i64_w, i32_w]
                        rfl
                      refine pure_ (i := 5) (N := some 52) (v := ?_) (a' := ?_) #[true, true, true, true, true, true, false, false, false, false, false, false, false, false, false, false, false, false, false, false, false, false, false, false] rfl rfl (any_of HT_.out (by kernel_rfl)) (fun _ _ _ h => h) (Or.inl ⟨by rfl, ?_⟩) ?_ ?_
                      rotate_left
                      · intro w'
                        go_simp
                        with_reducible rfl
                      rotate_left
                      · simp only [Act.put, List.setIfInBounds_toArray, List.set_cons_zero, List.set_cons_succ, i64_w, i32_w]
                        rfl
                      refine pure_ (i := 6) (N := some 53) (v := ?_) (a' := ?_) #[true, true, true, true, true, true, true, false, false, false, false, false, false, false, false, false, false, false, false, false, false, false, false, false] rfl rfl (any_of HT_.out (by kernel_rfl)) (fun _ _ _ h => h) (Or.inl ⟨by rfl, ?_⟩) ?_ ?_
                      rotate_left
                      · intro w'
                        go_simp
                        with_reducible rfl
                      rotate_left
                      · simp only [Act.put, List.setIfInBounds_toArray, List.set_cons_zero, List.set_cons_succ, i64_w, i32_w]
                        rfl
                      refine pure_ (i := 7) (N := some 54) (v := ?_) (a' := ?_) #[true, true, true, true, true, true, true, true, false, false, false, false, false, false, false, false, false, false, false, false, false, false, false, false] rfl rfl (any_of HT_.out (by kernel_rfl)) (fun _ _ _ h => h) (Or.inl ⟨by rfl, ?_⟩) ?_ ?_
                      rotate_left
                      · intro w'
                        go_simp
                        with_reducible rfl
                      rotate_left
                      · simp only [Act.put, List.setIfInBounds_toArray, List.set_cons_zero, List.set_cons_succ, i64_w, i32_w]
                        rfl
                      refine pure_ (i := 8) (N := some 55) (v := ?_) (a' := ?_) #[true, true, true, true, true, true, true, true, true, false, false, false, false, false, false, false, false, false, false, false, false, false, false, false] rfl rfl (any_of HT_.out (by kernel_rfl)) (fun _ _ _ h => h) (Or.inl ⟨by rfl, ?_⟩) ?_ ?_
                      rotate_left
                      · intro w'
                        go_simp
                        with_reducible rfl
                      rotate_left
                      · simp only [Act.put, List.setIfInBounds_toArray, List.set_cons_zero, List.set_cons_succ, i64_w, i32_w]
                        rfl
                      refine pure_ (i := 9) (N := some 56) (v := ?_) (a' := ?_) #[true, true, true, true, true, true, true, true, true, true, false, false, false, false, false, false, false, false, false, false, false, false, false, false] rfl rfl (any_of HT_.out (by kernel_rfl)) (fun _ _ _ h => h) (Or.inl ⟨by rfl, ?_⟩) ?_ ?_
                      rotate_left
                      · intro w'
                        go_simp
                        with_reducible rfl
                      rotate_left
                      · simp only [Act.put, List.setIfInBounds_toArray, List.set_cons_zero, List.set_cons_succ, i64_w, i32_w]
                        rfl
                      refine pure_ (i := 10) (N := some 57) (v := ?_) (a' := ?_) #[true, true, true, true, true, true, true, true, true, true, true, false, false, false, false, false, false, false, false, false, false, false, false, false] rfl rfl (any_of HT_.out (by kernel_rfl)) (fun _ _ _ h => h) (Or.inl ⟨by rfl, ?_⟩) ?_ ?_
                      rotate_left
                      · intro w'
                        go_simp
                        with_reducible rfl
                      rotate_left
                      · simp only [Act.put, List.setIfInBounds_toArray, List.set_cons_zero, List.set_cons_succ, i64_w, i32_w]
                        rfl
                      refine pure_ (i := 11) (N := some 58) (v := ?_) (a' := ?_) #[true, true, true, true, true, true, true, true, true, true, true, true, false, false, false, false, false, false, false, false, false, false, false, false] rfl rfl (any_of HT_.out (by kernel_rfl)) (fun _ _ _ h => h) (Or.inl ⟨by rfl, ?_⟩) ?_ ?_
                      rotate_left
                      · intro w'
                        go_simp
                        with_reducible rfl
                      rotate_left
                      · simp only [Act.put, List.setIfInBounds_toArray, List.set_cons_zero, List.set_cons_succ, i64_w, i32_w]
                        rfl
                      refine pure_ (i := 12) (N := some 59) (v := ?_) (a' := ?_) #[true, true, true, true, true, true, true, true, true, true, true, true, true, false, false, false, false, false, false, false, false, false, false, false] rfl rfl (any_of HT_.out (by kernel_rfl)) (fun _ _ _ h => h) (Or.inl ⟨by rfl, ?_⟩) ?_ ?_
                      rotate_left
                      · intro w'
                        go_simp
                        with_reducible rfl
                      rotate_left
                      · simp only [Act.put, List.setIfInBounds_toArray, List.set_cons_zero, List.set_cons_succ, i64_w, i32_w]
                        rfl
                      refine pure_ (i := 13) (N := some 60) (v := ?_) (a' := ?_) #[true, true, true, true, true, true, true, true, true, true, true, true, true, true, false, false, false, false, false, false, false, false, false, false] rfl rfl (any_of HT_.out (by kernel_rfl)) (fun _ _ _ h => h) (Or.inl ⟨by rfl, ?_⟩) ?_ ?_
                      rotate_left
                      · intro w'
                        go_simp
                        with_reducible rfl
                      rotate_left
                      · simp only [Act.put, List.setIfInBounds_toArray, List.set_cons_zero, List.set_cons_succ, i64_w, i32_w]
                        rfl
                      refine pure_ (i := 14) (N := some 61) (v := ?_) (a' := ?_) #[true, true, true, true, true, true, true, true, true, true, true, true, true, true, true, false, false, false, false, false, false, false, false, false] rfl rfl (any_of HT_.out (by kernel_rfl)) (fun _ _ _ h => h) (Or.inl ⟨by rfl, ?_⟩) ?_ ?_
                      rotate_left
                      · intro w'
                        go_simp
                        with_reducible rfl
                      rotate_left
                      · simp only [Act.put, List.setIfInBounds_toArray, List.set_cons_zero, List.set_cons_succ, i64_w, i32_w]
                        rfl
                      refine pure_ (i := 15) (N := some 62) (v := ?_) (a' := ?_) #[true, true, true, true, true, true, true, true, true, true, true, true, true, true, true, true, false, false, false, false, false, false, false, false] rfl rfl (any_of HT_.out (by kernel_rfl)) (fun _ _ _ h => h) (Or.inl ⟨by rfl, ?_⟩) ?_ ?_
                      rotate_left
                      · intro w'
                        go_simp
                        with_reducible rfl
                      rotate_left
                      · simp only [Act.put, List.setIfInBounds_toArray, List.set_cons_zero, List.set_cons_succ, i64_w, i32_w]
                        rfl
                      refine pure_ (i := 18) (N := some 65) (v := ?_) (a' := ?_) #[true, true, true, true, true, true, true, true, true, true, true, true, true, true, true, true, false, false, true, false, false, false, false, false] rfl rfl (any_of HT_.out (by kernel_rfl)) (fun _ _ _ h => h) (Or.inl ⟨by rfl, ?_⟩) ?_ ?_
                      rotate_left
                      · intro w'
                        go_simp
                        with_reducible rfl
                      rotate_left
                      · simp only [Act.put, List.setIfInBounds_toArray, List.set_cons_zero, List.set_cons_succ, i64_w, i32_w]
                        rfl
                      refine pure_ (i := 19) (N := some 66) (v := ?_) (a' := ?_) #[true, true, true, true, true, true, true, true, true, true, true, true, true, true, true, true, false, false, true, true, false, false, false, false] rfl rfl (any_of HT_.out (by kernel_rfl)) (fun _ _ _ h => h) (Or.inl ⟨by rfl, ?_⟩) ?_ ?_
                      rotate_left
                      · intro w'
                        go_simp
                        with_reducible rfl
                      rotate_left
                      · simp only [Act.put, List.setIfInBounds_toArray, List.set_cons_zero, List.set_cons_succ, i64_w, i32_w]
                        rfl
                      refine pure_ (i := 20) (N := some 67) (v := ?_) (a' := ?_) #[true, true, true, true, true, true, true, true, true, true, true, true, true, true, true, true, false, false, true, true, true, false, false, false] rfl rfl (any_of HT_.out (by kernel_rfl)) (fun _ _ _ h => h) (Or.inl ⟨by rfl, ?_⟩) ?_ ?_
                      rotate_left
                      · intro w'
                        go_simp
                        with_reducible rfl
                      rotate_left
                      · simp only [Act.put, List.setIfInBounds_toArray, List.set_cons_zero, List.set_cons_succ, i64_w, i32_w]
                        rfl
                      refine take_ (i := 16) (N := some 63) (v := ?_) (a' := ?_) #[true, true, true, true, true, true, true, true, true, true, true, true, true, true, true, true, true, false, true, true, true, false, false, false] rfl rfl (take_ofW HT_.out HW_.out (by kernel_rfl)) (fun _ _ _ h => h) (Or.inl ⟨by rfl, ?_⟩) hHeld ?_ ?_
                      rotate_left
                      · rintro w' ⟨s0, s1, s2, s3, s4⟩
                        go_simp
                        with_reducible rfl
                      rotate_left
                      · simp only [Act.put, List.setIfInBounds_toArray, List.set_cons_zero, List.set_cons_succ, i64_w, i32_w]
                        rfl
                      refine one_ (i := 17) (N := some 64) #[true, true, true, true, true, true, true, true, true, true, true, true, true, true, true, true, true, true, true, true, true, false, false, false] rfl rfl (one_of HT_.out (by kernel_rfl)) (by decide) (fun K hK => ?_)
                      refine goes_ Try.func17 (by kernel_rfl) rfl #[.agg #[.bool t443, .int .i64 t444, .bool t445, .int .i64 t446, .slice Ao24 t447.length co24]] (by rfl) rfl rfl (by (try simp only [List.map_toArray, List.map_cons, List.map_nil]); first | done | rfl | (simp only [List.length_drop, List.length_take]; rfl)) ?_
                      with_reducible refine (frame_Head.calls t443 t444 t445 t446 _ _ t447 t454 _ ?side1 ?side2 A16.out).mono ?_
                      (case side1 => repeat (first | exact (Kd.R_reads' HO449.out).2.2 | (with_reducible refine Kd.C_alloc ?_ _) | (with_reducible refine Kd.C_drewN ?_ _) | (with_reducible refine Kd.C_drew ?_)))
                      (case side2 => exact (Kd.R_reads' HO449.out).2.1)
                      rintro e w28 ⟨v455, rfl, ho0, hb⟩
                      refine ⟨_, rfl, ?_⟩
                      have n0_ := Aside0.mk (Kd.R_below (by (with_reducible repeat (first | apply Kd.R_alloc | apply Kd.R_drewN | apply Kd.R_drew)); exact HO449.out) hb)
                      have n1_ := Aside0.mk (Kd.R_lower ho0 (below_size (by repeat (first | (with_reducible first | exact HB.out | apply below_alloc | apply pw_below_drewN | apply below_drew1 | refine below_set ?_ GE452.out) | exact HB.out))))
                      have n2_ := Aside0.mk (blk_below (g := gb452) (o := .cells #[.bool t443, .int .i64 t444, .bool t445, .int .i64 t446, .slice Ao24 t447.length co24] 24 (0, 0)) (by (with_reducible repeat (first | refine blk_drewN ?_ _ | refine blk_drew ?_ | refine blk_alloc ?_ _)); exact BK452.out) hb)
                      have n3_ := Aside0.mk (below_step (by repeat (first | (with_reducible first | exact HB.out | apply below_alloc | apply pw_below_drewN | apply below_drew1 | refine below_set ?_ GE452.out) | exact HB.out)) hb)
                      clear HO449
                      clear BK452
                      clear HB
                      have HO449 := n0_
                      have HO456 := n1_
                      have BK452 := n2_
                      have HB := n3_
                      clear n0_ n1_ n2_ n3_
                      (try clear hb)
                      (try clear hb2)
                      (try clear hk)
                      (try clear hi)
                      (try clear ho0)
                      obtain ⟨Ao30, co30, eo30⟩ := Kd.R_slice HO456.out
                      (first | subst eo30 | (injection eo30 with f1_ f2_ f3_; have f4_ := f1_.symm; have f5_ := f3_.symm; clear f1_ f2_ f3_; subst f4_; subst f5_))
                      refine hK.out _ _ ⟨(blk_cell BK452.out 0).trans rfl, (blk_cell BK452.out 1).trans rfl, (blk_cell BK452.out 2).trans rfl, (blk_cell BK452.out 3).trans rfl, (blk_cell BK452.out 4).trans rfl⟩ (fun hHeld => ?_)
                      clear hK K
                      refine norm_ (a' := ?_) ?_ ?_
                      rotate_left
                      · show Act.put _ (some 64) _ = _
                        simp only [Act.put, List.setIfInBounds_toArray, List.set_cons_zero, List.set_cons_succ, i64_w, i32_w]
                        rfl
                      refine one_ (i := 21) (N := some 68) #[true, true, true, true, true, true, true, true, true, true, true, true, true, true, true, true, true, true, true, true, true, true, false, false] rfl rfl (one_of HT_.out (by kernel_rfl)) (by decide) (fun K hK => ?_)
                      refine goes_ Try.func16 (by kernel_rfl) rfl #[.slice Ao30 t454.length co30, .slice A0 (l0.take (t450 : Int).toNat).length c0] (by rfl) rfl rfl (by (try simp only [List.map_toArray, List.map_cons, List.map_nil]); first | done | (rw [show (l0.take (t450 : Int).toNat).length = t450.toNat from (by rw [List.length_take]; have h_ : (t450 : Int) ≤ (l0.length : Int) := of_decide_eq_true (by first | (with_reducible assumption) | assumption); omega)] <;> rfl) | rfl | (simp only [List.length_drop, List.length_take]; rfl)) ?_
                      with_reducible refine (phaetonref01_Same.calls kj2 _ _ t454 _ _ (l0.take (t450 : Int).toNat) true _ ?side1 ?side2 ?side3 ?side4 A19.out).mono ?_
                      (case side1 => repeat (first | exact (Kd.R_reads' HO456.out).2.2 | (with_reducible refine Kd.C_alloc ?_ _) | (with_reducible refine Kd.C_drewN ?_ _) | (with_reducible refine Kd.C_drew ?_)))
                      (case side2 => exact (Kd.R_reads' HO456.out).2.1)
                      (case side3 => repeat (first | exact (Kd.C_below HR457.out HB.out) | (with_reducible refine Kd.C_alloc ?_ _) | (with_reducible refine Kd.C_drewN ?_ _) | (with_reducible refine Kd.C_drew ?_)))
                      (case side4 => exact HC457.out)
                      rintro e w' ⟨rfl, ⟨nd, rfl⟩⟩
                      refine ⟨_, rfl, ?_⟩
                      refine hK.out _ _ ⟨(blk_cell BK452.out 0).trans rfl, (blk_cell BK452.out 1).trans rfl, (blk_cell BK452.out 2).trans rfl, (blk_cell BK452.out 3).trans rfl, (blk_cell BK452.out 4).trans rfl⟩ (fun hHeld => ?_)
                      clear hK K
                      refine norm_ (a' := ?_) ?_ ?_
                      rotate_left
                      · show Act.put _ (some 68) _ = _
                        simp only [Act.put, List.setIfInBounds_toArray, List.set_cons_zero, List.set_cons_succ, i64_w, i32_w]
                        rfl
                      refine pure_ (i := 22) (N := some 69) (v := ?_) (a' := ?_) #[true, true, true, true, true, true, true, true, true, true, true, true, true, true, true, true, true, true, true, true, true, true, true, false] rfl rfl (any_of HT_.out (by kernel_rfl)) (fun _ _ _ h => h) (Or.inl ⟨by rfl, ?_⟩) ?_ ?_
                      rotate_left
                      · intro w'
                        go_simp
                        with_reducible rfl
                      rotate_left
                      · simp only [Act.put, List.setIfInBounds_toArray, List.set_cons_zero, List.set_cons_succ, i64_w, i32_w]
                        rfl
                      refine pure_ (i := 23) (N := some 2) (v := ?_) (a' := ?_) #[true, true, true, true, true, true, true, true, true, true, true, true, true, true, true, true, true, true, true, true, true, true, true, true] rfl rfl (any_of HT_.out (by kernel_rfl)) (fun _ _ _ h => h) (Or.inl ⟨by rfl, ?_⟩) ?_ ?_
                      rotate_left
                      · intro w'
                        go_simp
                        with_reducible rfl
                      rotate_left
                      · simp only [Act.put, List.setIfInBounds_toArray, List.set_cons_zero, List.set_cons_succ, i64_w, i32_w]
                        rfl
                      refine done_ (done_of HT_.out (by kernel_rfl)) ?_
                      try go_wp2
                      go_ret
                      exact ⟨by first | rfl | (simp [errW_none, errW_some] <;> rfl) | (simp [*, errW_none, errW_some] <;> rfl), by repeat (first | (with_reducible first | exact HB.out | apply below_alloc | apply pw_below_drewN | apply below_drew1 | refine below_set ?_ GE452.out) | exact HB.out)⟩
                    · replace c20 := Bool.eq_false_iff.mpr c20
                      subst c20
                      have H1 : (none) = some r := by rw [if_neg (show ¬ (false = true) by decide)] at H; exact H
                      clear H
                      have H := H1
                      clear H1
                      exact absurd H (by simp)
                  · rw [if_neg c17] at H
                    exact absurd H (by simp)
                · rw [if_neg c15] at H
                  have c15b0 : decide (t450 ≤ (l0.length : Int)) = false := decide_eq_false c15
                  clear c15
                  exact absurd H (by simp)
              · rw [if_neg c14] at H
                have c14b0 : decide (0 ≤ t450) = false := decide_eq_false c14
                clear c14
                exact absurd H (by simp)
            · replace c13 := Bool.eq_false_iff.mpr c13
              subst c13
              have H1 : (none) = some r := by rw [if_neg (show ¬ (false = true) by decide)] at H; exact H
              clear H
              have H := H1
              clear H1
              exact absurd H (by simp)
          · replace c11 := Bool.eq_false_iff.mpr c11
            subst c11
            have H1 : (none) = some r := by rw [if_neg (show ¬ (false = true) by decide)] at H; exact H
            clear H
            have H := H1
            clear H1
            exact absurd H (by simp)
        · rw [if_neg c10] at H
          have c10b0 : (t451 == 0) = false := beq_eq_false_iff_ne.mpr c10
          have c10b1 : (t451 != 0) = true := bne_iff_ne.mpr c10
          by_cases c31 : t441 = true
          · subst c31
            have H1 : ((phaetonref04_Same.f t443 t444 t445 t446 t447 false 0 false 0 ([] : List Int)).bind fun t459 => (if t459 = true then (if t450 = 0 then (if t451 = 40 then (some true) else (if t451 = 42 then (some true) else (if t451 = 41 then (some true) else (none)))) else (none)) else (none))) = some r := by rw [if_pos rfl] at H; exact H
            clear H
            have H := H1
            clear H1
            replace H := Option.bind_eq_some_iff.mp H
            obtain ⟨t459, A320, H⟩ := H
            replace H : (if t459 = true then (if t450 = 0 then (if t451 = 40 then (some true) else (if t451 = 42 then (some true) else (if t451 = 41 then (some true) else (none)))) else (none)) else (none)) = some r := H
            have A32 := Aside0.mk A320
            clear A320
            by_cases c33 : t459 = true
            · subst c33
              have H1 : (if t450 = 0 then (if t451 = 40 then (some true) else (if t451 = 42 then (some true) else (if t451 = 41 then (some true) else (none)))) else (none)) = some r := by rw [if_pos rfl] at H; exact H
              clear H
              have H := H1
              clear H1
              by_cases c34 : t450 = 0
              · rw [if_pos c34] at H
                have c34b0 : (t450 == 0) = true := beq_iff_eq.mpr c34
                have c34b1 : (t450 != 0) = false := bne_eq_false_iff_eq.mpr c34
                clear c34
                by_cases c35 : t451 = 40
                · rw [if_pos c35] at H
                  have c35b0 : (t451 == 40) = true := beq_iff_eq.mpr c35
                  have c35b1 : (t451 != 40) = false := bne_eq_false_iff_eq.mpr c35
                  clear c35
                  obtain rfl := Option.some.inj H
                  go_wp2_with (first | ((with_reducible refine gate_store (t := 24) (p := 4) rfl ?_); refine HW.store_box2 rfl rfl 24 _ _ rfl rfl rfl BK452.out rfl (by kernel_rfl) (by intro q hq; simp only [List.mem_cons, List.not_mem_nil, or_false] at hq; rcases hq with rfl | rfl | rfl | rfl | rfl <;> rfl) ?_; intro w1_ hw1_ hk1_; simp only [List.toList_toArray, World.setCells, Nat.zero_add, Nat.reduceAdd] at hw1_; subst hw1_; have hcb452_0 := (blk_cell hk1_ 0).trans rfl; have hfb452_0 := blk_frozen hk1_ 0; have hcb452_1 := (blk_cell hk1_ 1).trans rfl; have hfb452_1 := blk_frozen hk1_ 1; have hcb452_2 := (blk_cell hk1_ 2).trans rfl; have hfb452_2 := blk_frozen hk1_ 2; have hcb452_3 := (blk_cell hk1_ 3).trans rfl; have hfb452_3 := blk_frozen hk1_ 3; have hcb452_4 := (blk_cell hk1_ 4).trans rfl; have hfb452_4 := blk_frozen hk1_ 4; clear hk1_) | ((with_reducible refine gate_callee (f := 22) rfl ?_); refine goesL_ (some 19) rfl rfl Try.func22 (by kernel_rfl) rfl #[.slice A0 l0.length c0] rfl (by (try simp only [List.map_toArray, List.map_cons, List.map_nil]); first | done | rfl | (simp only [List.length_drop, List.length_take]; rfl)) ?_; (with_reducible refine (frame_Read.calls _ _ l0 t443 t444 t445 t446 t447 t450 t451 _ ?side1 ?side2 A9.out).mono ?_); (case side1 => repeat (first | exact (Kd.C_below HR0.out HB.out) | (with_reducible refine Kd.C_alloc ?_ _) | (with_reducible refine Kd.C_drewN ?_ _) | (with_reducible refine Kd.C_drew ?_))); (case side2 => exact HC0.out); rintro e w36 ⟨v448, rfl, ho0, hb⟩; refine ⟨_, rfl, ?_⟩; have n0_ := Aside0.mk (Kd.R_lower ho0 (below_size (by repeat (first | (with_reducible first | exact HB.out | apply below_alloc | apply pw_below_drewN | apply below_drew1) | exact HB.out)))); have n1_ := Aside0.mk (below_step (by repeat (first | (with_reducible first | exact HB.out | apply below_alloc | apply pw_below_drewN | apply below_drew1) | exact HB.out)) hb); clear HB; have HO449 := n0_; have HB := n1_; clear n0_ n1_; (try clear hb); (try clear hb2); (try clear hk); (try clear hi); (try clear ho0)) | ((with_reducible refine gate_dst (N := 4) rfl ?_); (try (refine gate_guard (by rfl) ?_; dsimp only)); refine box_event ?hg (N := 4) ?hd (cs := #[.bool false, .int .i64 0, .bool false, .int .i64 0, .slice none 0 0]) (t := 24) ?hr ?_; (case hd => rfl); (case hg => rfl); (case hr => first | (go_simp; done) | (go_simp; rfl)); intro gb452 hg w37 hbox hb; have n0_ := Aside0.mk (Kd.R_below (by (with_reducible repeat (first | apply Kd.R_alloc | apply Kd.R_drewN | apply Kd.R_drew)); exact HO449.out) hb); have n1_ := Aside0.mk (below_step (by repeat (first | (with_reducible first | exact HB.out | apply below_alloc | apply pw_below_drewN | apply below_drew1) | exact HB.out)) hb); have n2_ := Aside0.mk (hbox); have n3_ := Aside0.mk ((by rw [hg]; exact (below_size (by repeat (first | (with_reducible first | exact HB.out | apply below_alloc | apply pw_below_drewN | apply below_drew1) | exact HB.out))) : w.heap.size ≤ gb452)); have n4_ := Aside0.mk ((by rw [hg]; exact (below_size (by repeat (first | (with_reducible first | exact HB.out | apply below_alloc | apply pw_below_drewN | apply below_drew1) | exact HB.out))) : w.heap.size ≤ gb452)); clear HO449; clear HB; have HO449 := n0_; have HB := n1_; have BK452 := n2_; have GW452 := n3_; have GE452 := n4_; clear n0_ n1_ n2_ n3_ n4_; clear hb hbox hg; have hcz38_0 : w37.cell? ⟨gb452, 0, none⟩ = some (.bool false) := (blk_cell BK452.out 0).trans rfl; have hcz38_1 : w37.cell? ⟨gb452, 1, none⟩ = some (.int .i64 0) := (blk_cell BK452.out 1).trans rfl; have hcz38_2 : w37.cell? ⟨gb452, 2, none⟩ = some (.bool false) := (blk_cell BK452.out 2).trans rfl; have hcz38_3 : w37.cell? ⟨gb452, 3, none⟩ = some (.int .i64 0) := (blk_cell BK452.out 3).trans rfl; have hcz38_4 : w37.cell? ⟨gb452, 4, none⟩ = some (.slice none 0 0) := (blk_cell BK452.out 4).trans rfl; have hfz38_0 := blk_frozen BK452.out 0; have hfz38_1 := blk_frozen BK452.out 1; have hfz38_2 := blk_frozen BK452.out 2; have hfz38_3 := blk_frozen BK452.out 3; have hfz38_4 := blk_frozen BK452.out 4; obtain ⟨Ao39, co39, eo39⟩ := Kd.R_slice HO449.out; subst eo39) | (go_at_call 15; (refine (phaetonref04_Same.calls t443 t444 t445 t446 _ _ t447 false 0 false 0 _ _ ([] : List Int) true _ ?side1 ?side2 ?side3 ?side4 A32.out).mono ?_); (case side1 => refine (Kd.R_reads' (e := 5) (base := w.heap.size) (ok := fun k_ => True) (n := t447.length) (c := co39) ?_).2.2; exact (by (with_reducible repeat (first | apply Kd.R_alloc | apply Kd.R_drewN | apply Kd.R_drew)); exact (Kd.R_mono (Kd.R_far (p := ⟨gb452, 4, none⟩) (Kd.R_far (p := ⟨gb452, 3, none⟩) (Kd.R_far (p := ⟨gb452, 2, none⟩) (Kd.R_far (p := ⟨gb452, 1, none⟩) (Kd.R_far (p := ⟨gb452, 0, none⟩) (Kd.R_types HO449.out BK452.out (by decide)) (fun _ hk => hk.2) (.bool t443)) (fun _ hk => hk.2) (.int .i64 t444)) (fun _ hk => hk.2) (.bool t445)) (fun _ hk => hk.2) (.int .i64 t446)) (fun _ hk => hk.2) (.slice Ao39 t447.length co39)) (fun _ h_ => h_.1)))); (case side2 => exact (Kd.R_reads' HO449.out).2.1); (case side3 => exact Kd.C_nil _ _); (case side4 => exact Nat.le_refl _); rintro e w40 ⟨rfl, hb⟩; have n0_ := Aside0.mk (Kd.R_below (by (with_reducible repeat (first | apply Kd.R_alloc | apply Kd.R_drewN | apply Kd.R_drew)); exact (Kd.R_mono (Kd.R_far (p := ⟨gb452, 4, none⟩) (Kd.R_far (p := ⟨gb452, 3, none⟩) (Kd.R_far (p := ⟨gb452, 2, none⟩) (Kd.R_far (p := ⟨gb452, 1, none⟩) (Kd.R_far (p := ⟨gb452, 0, none⟩) (Kd.R_types HO449.out BK452.out (by decide)) (fun _ hk => hk.2) (.bool t443)) (fun _ hk => hk.2) (.int .i64 t444)) (fun _ hk => hk.2) (.bool t445)) (fun _ hk => hk.2) (.int .i64 t446)) (fun _ hk => hk.2) (.slice Ao39 t447.length co39)) (fun _ h_ => h_.1))) hb); have n1_ := Aside0.mk (blk_below (g := gb452) (o := .cells #[.bool t443, .int .i64 t444, .bool t445, .int .i64 t446, .slice Ao39 t447.length co39] 24 (0, 0)) (by (with_reducible repeat (first | refine blk_drewN ?_ _ | refine blk_drew ?_ | refine blk_alloc ?_ _)); refine blk_put (cs := #[.bool t443, .int .i64 t444, .bool t445, .int .i64 t446, .slice none 0 0]) ?_ 4 _ rfl; (with_reducible repeat (first | refine blk_drewN ?_ _ | refine blk_drew ?_ | refine blk_alloc ?_ _)); refine blk_put (cs := #[.bool t443, .int .i64 t444, .bool t445, .int .i64 0, .slice none 0 0]) ?_ 3 _ rfl; (with_reducible repeat (first | refine blk_drewN ?_ _ | refine blk_drew ?_ | refine blk_alloc ?_ _)); refine blk_put (cs := #[.bool t443, .int .i64 t444, .bool false, .int .i64 0, .slice none 0 0]) ?_ 2 _ rfl; (with_reducible repeat (first | refine blk_drewN ?_ _ | refine blk_drew ?_ | refine blk_alloc ?_ _)); refine blk_put (cs := #[.bool t443, .int .i64 0, .bool false, .int .i64 0, .slice none 0 0]) ?_ 1 _ rfl; (with_reducible repeat (first | refine blk_drewN ?_ _ | refine blk_drew ?_ | refine blk_alloc ?_ _)); refine blk_put (cs := #[.bool false, .int .i64 0, .bool false, .int .i64 0, .slice none 0 0]) ?_ 0 _ rfl; (with_reducible repeat (first | refine blk_drewN ?_ _ | refine blk_drew ?_ | refine blk_alloc ?_ _)); exact BK452.out) hb); have n2_ := Aside0.mk (below_step (by repeat (first | (with_reducible first | exact HB.out | apply below_alloc | apply pw_below_drewN | apply below_drew1 | refine below_set ?_ GE452.out) | exact HB.out)) hb); clear HO449; clear BK452; clear HB; have HO449 := n0_; have BK452 := n1_; have HB := n2_; clear n0_ n1_ n2_; (try clear hb); (try clear hb2); (try clear hk); (try clear hi)))
                  go_ret
                  exact ⟨by first | rfl | (simp [errW_none, errW_some] <;> rfl) | (simp [*, errW_none, errW_some] <;> rfl), by repeat (first | (with_reducible first | exact HB.out | apply below_alloc | apply pw_below_drewN | apply below_drew1 | refine below_set ?_ GE452.out) | exact HB.out)⟩
                · rw [if_neg c35] at H
                  have c35b0 : (t451 == 40) = false := beq_eq_false_iff_ne.mpr c35
                  have c35b1 : (t451 != 40) = true := bne_iff_ne.mpr c35
                  by_cases c41 : t451 = 42
                  · rw [if_pos c41] at H
                    have c41b0 : (t451 == 42) = true := beq_iff_eq.mpr c41
                    have c41b1 : (t451 != 42) = false := bne_eq_false_iff_eq.mpr c41
                    clear c41
                    obtain rfl := Option.some.inj H
                    go_wp2_with (first | ((with_reducible refine gate_store (t := 24) (p := 4) rfl ?_); refine HW.store_box2 rfl rfl 24 _ _ rfl rfl rfl BK452.out rfl (by kernel_rfl) (by intro q hq; simp only [List.mem_cons, List.not_mem_nil, or_false] at hq; rcases hq with rfl | rfl | rfl | rfl | rfl <;> rfl) ?_; intro w1_ hw1_ hk1_; simp only [List.toList_toArray, World.setCells, Nat.zero_add, Nat.reduceAdd] at hw1_; subst hw1_; have hcb452_0 := (blk_cell hk1_ 0).trans rfl; have hfb452_0 := blk_frozen hk1_ 0; have hcb452_1 := (blk_cell hk1_ 1).trans rfl; have hfb452_1 := blk_frozen hk1_ 1; have hcb452_2 := (blk_cell hk1_ 2).trans rfl; have hfb452_2 := blk_frozen hk1_ 2; have hcb452_3 := (blk_cell hk1_ 3).trans rfl; have hfb452_3 := blk_frozen hk1_ 3; have hcb452_4 := (blk_cell hk1_ 4).trans rfl; have hfb452_4 := blk_frozen hk1_ 4; clear hk1_) | ((with_reducible refine gate_callee (f := 22) rfl ?_); refine goesL_ (some 19) rfl rfl Try.func22 (by kernel_rfl) rfl #[.slice A0 l0.length c0] rfl (by (try simp only [List.map_toArray, List.map_cons, List.map_nil]); first | done | rfl | (simp only [List.length_drop, List.length_take]; rfl)) ?_; (with_reducible refine (frame_Read.calls _ _ l0 t443 t444 t445 t446 t447 t450 t451 _ ?side1 ?side2 A9.out).mono ?_); (case side1 => repeat (first | exact (Kd.C_below HR0.out HB.out) | (with_reducible refine Kd.C_alloc ?_ _) | (with_reducible refine Kd.C_drewN ?_ _) | (with_reducible refine Kd.C_drew ?_))); (case side2 => exact HC0.out); rintro e w42 ⟨v448, rfl, ho0, hb⟩; refine ⟨_, rfl, ?_⟩; have n0_ := Aside0.mk (Kd.R_lower ho0 (below_size (by repeat (first | (with_reducible first | exact HB.out | apply below_alloc | apply pw_below_drewN | apply below_drew1) | exact HB.out)))); have n1_ := Aside0.mk (below_step (by repeat (first | (with_reducible first | exact HB.out | apply below_alloc | apply pw_below_drewN | apply below_drew1) | exact HB.out)) hb); clear HB; have HO449 := n0_; have HB := n1_; clear n0_ n1_; (try clear hb); (try clear hb2); (try clear hk); (try clear hi); (try clear ho0)) | ((with_reducible refine gate_dst (N := 4) rfl ?_); (try (refine gate_guard (by rfl) ?_; dsimp only)); refine box_event ?hg (N := 4) ?hd (cs := #[.bool false, .int .i64 0, .bool false, .int .i64 0, .slice none 0 0]) (t := 24) ?hr ?_; (case hd => rfl); (case hg => rfl); (case hr => first | (go_simp; done) | (go_simp; rfl)); intro gb452 hg w43 hbox hb; have n0_ := Aside0.mk (Kd.R_below (by (with_reducible repeat (first | apply Kd.R_alloc | apply Kd.R_drewN | apply Kd.R_drew)); exact HO449.out) hb); have n1_ := Aside0.mk (below_step (by repeat (first | (with_reducible first | exact HB.out | apply below_alloc | apply pw_below_drewN | apply below_drew1) | exact HB.out)) hb); have n2_ := Aside0.mk (hbox); have n3_ := Aside0.mk ((by rw [hg]; exact (below_size (by repeat (first | (with_reducible first | exact HB.out | apply below_alloc | apply pw_below_drewN | apply below_drew1) | exact HB.out))) : w.heap.size ≤ gb452)); have n4_ := Aside0.mk ((by rw [hg]; exact (below_size (by repeat (first | (with_reducible first | exact HB.out | apply below_alloc | apply pw_below_drewN | apply below_drew1) | exact HB.out))) : w.heap.size ≤ gb452)); clear HO449; clear HB; have HO449 := n0_; have HB := n1_; have BK452 := n2_; have GW452 := n3_; have GE452 := n4_; clear n0_ n1_ n2_ n3_ n4_; clear hb hbox hg; have hcz44_0 : w43.cell? ⟨gb452, 0, none⟩ = some (.bool false) := (blk_cell BK452.out 0).trans rfl; have hcz44_1 : w43.cell? ⟨gb452, 1, none⟩ = some (.int .i64 0) := (blk_cell BK452.out 1).trans rfl; have hcz44_2 : w43.cell? ⟨gb452, 2, none⟩ = some (.bool false) := (blk_cell BK452.out 2).trans rfl; have hcz44_3 : w43.cell? ⟨gb452, 3, none⟩ = some (.int .i64 0) := (blk_cell BK452.out 3).trans rfl; have hcz44_4 : w43.cell? ⟨gb452, 4, none⟩ = some (.slice none 0 0) := (blk_cell BK452.out 4).trans rfl; have hfz44_0 := blk_frozen BK452.out 0; have hfz44_1 := blk_frozen BK452.out 1; have hfz44_2 := blk_frozen BK452.out 2; have hfz44_3 := blk_frozen BK452.out 3; have hfz44_4 := blk_frozen BK452.out 4; obtain ⟨Ao45, co45, eo45⟩ := Kd.R_slice HO449.out; subst eo45) | (go_at_call 15; (refine (phaetonref04_Same.calls t443 t444 t445 t446 _ _ t447 false 0 false 0 _ _ ([] : List Int) true _ ?side1 ?side2 ?side3 ?side4 A32.out).mono ?_); (case side1 => refine (Kd.R_reads' (e := 5) (base := w.heap.size) (ok := fun k_ => True) (n := t447.length) (c := co45) ?_).2.2; exact (by (with_reducible repeat (first | apply Kd.R_alloc | apply Kd.R_drewN | apply Kd.R_drew)); exact (Kd.R_mono (Kd.R_far (p := ⟨gb452, 4, none⟩) (Kd.R_far (p := ⟨gb452, 3, none⟩) (Kd.R_far (p := ⟨gb452, 2, none⟩) (Kd.R_far (p := ⟨gb452, 1, none⟩) (Kd.R_far (p := ⟨gb452, 0, none⟩) (Kd.R_types HO449.out BK452.out (by decide)) (fun _ hk => hk.2) (.bool t443)) (fun _ hk => hk.2) (.int .i64 t444)) (fun _ hk => hk.2) (.bool t445)) (fun _ hk => hk.2) (.int .i64 t446)) (fun _ hk => hk.2) (.slice Ao45 t447.length co45)) (fun _ h_ => h_.1)))); (case side2 => exact (Kd.R_reads' HO449.out).2.1); (case side3 => exact Kd.C_nil _ _); (case side4 => exact Nat.le_refl _); rintro e w46 ⟨rfl, hb⟩; have n0_ := Aside0.mk (Kd.R_below (by (with_reducible repeat (first | apply Kd.R_alloc | apply Kd.R_drewN | apply Kd.R_drew)); exact (Kd.R_mono (Kd.R_far (p := ⟨gb452, 4, none⟩) (Kd.R_far (p := ⟨gb452, 3, none⟩) (Kd.R_far (p := ⟨gb452, 2, none⟩) (Kd.R_far (p := ⟨gb452, 1, none⟩) (Kd.R_far (p := ⟨gb452, 0, none⟩) (Kd.R_types HO449.out BK452.out (by decide)) (fun _ hk => hk.2) (.bool t443)) (fun _ hk => hk.2) (.int .i64 t444)) (fun _ hk => hk.2) (.bool t445)) (fun _ hk => hk.2) (.int .i64 t446)) (fun _ hk => hk.2) (.slice Ao45 t447.length co45)) (fun _ h_ => h_.1))) hb); have n1_ := Aside0.mk (blk_below (g := gb452) (o := .cells #[.bool t443, .int .i64 t444, .bool t445, .int .i64 t446, .slice Ao45 t447.length co45] 24 (0, 0)) (by (with_reducible repeat (first | refine blk_drewN ?_ _ | refine blk_drew ?_ | refine blk_alloc ?_ _)); refine blk_put (cs := #[.bool t443, .int .i64 t444, .bool t445, .int .i64 t446, .slice none 0 0]) ?_ 4 _ rfl; (with_reducible repeat (first | refine blk_drewN ?_ _ | refine blk_drew ?_ | refine blk_alloc ?_ _)); refine blk_put (cs := #[.bool t443, .int .i64 t444, .bool t445, .int .i64 0, .slice none 0 0]) ?_ 3 _ rfl; (with_reducible repeat (first | refine blk_drewN ?_ _ | refine blk_drew ?_ | refine blk_alloc ?_ _)); refine blk_put (cs := #[.bool t443, .int .i64 t444, .bool false, .int .i64 0, .slice none 0 0]) ?_ 2 _ rfl; (with_reducible repeat (first | refine blk_drewN ?_ _ | refine blk_drew ?_ | refine blk_alloc ?_ _)); refine blk_put (cs := #[.bool t443, .int .i64 0, .bool false, .int .i64 0, .slice none 0 0]) ?_ 1 _ rfl; (with_reducible repeat (first | refine blk_drewN ?_ _ | refine blk_drew ?_ | refine blk_alloc ?_ _)); refine blk_put (cs := #[.bool false, .int .i64 0, .bool false, .int .i64 0, .slice none 0 0]) ?_ 0 _ rfl; (with_reducible repeat (first | refine blk_drewN ?_ _ | refine blk_drew ?_ | refine blk_alloc ?_ _)); exact BK452.out) hb); have n2_ := Aside0.mk (below_step (by repeat (first | (with_reducible first | exact HB.out | apply below_alloc | apply pw_below_drewN | apply below_drew1 | refine below_set ?_ GE452.out) | exact HB.out)) hb); clear HO449; clear BK452; clear HB; have HO449 := n0_; have BK452 := n1_; have HB := n2_; clear n0_ n1_ n2_; (try clear hb); (try clear hb2); (try clear hk); (try clear hi)))
                    go_ret
                    exact ⟨by first | rfl | (simp [errW_none, errW_some] <;> rfl) | (simp [*, errW_none, errW_some] <;> rfl), by repeat (first | (with_reducible first | exact HB.out | apply below_alloc | apply pw_below_drewN | apply below_drew1 | refine below_set ?_ GE452.out) | exact HB.out)⟩
                  · rw [if_neg c41] at H
                    have c41b0 : (t451 == 42) = false := beq_eq_false_iff_ne.mpr c41
                    have c41b1 : (t451 != 42) = true := bne_iff_ne.mpr c41
                    by_cases c47 : t451 = 41
                    · rw [if_pos c47] at H
                      have c47b0 : (t451 == 41) = true := beq_iff_eq.mpr c47
                      have c47b1 : (t451 != 41) = false := bne_eq_false_iff_eq.mpr c47
                      clear c47
                      obtain rfl := Option.some.inj H
                      go_wp2_with (first | ((with_reducible refine gate_store (t := 24) (p := 4) rfl ?_); refine HW.store_box2 rfl rfl 24 _ _ rfl rfl rfl BK452.out rfl (by kernel_rfl) (by intro q hq; simp only [List.mem_cons, List.not_mem_nil, or_false] at hq; rcases hq with rfl | rfl | rfl | rfl | rfl <;> rfl) ?_; intro w1_ hw1_ hk1_; simp only [List.toList_toArray, World.setCells, Nat.zero_add, Nat.reduceAdd] at hw1_; subst hw1_; have hcb452_0 := (blk_cell hk1_ 0).trans rfl; have hfb452_0 := blk_frozen hk1_ 0; have hcb452_1 := (blk_cell hk1_ 1).trans rfl; have hfb452_1 := blk_frozen hk1_ 1; have hcb452_2 := (blk_cell hk1_ 2).trans rfl; have hfb452_2 := blk_frozen hk1_ 2; have hcb452_3 := (blk_cell hk1_ 3).trans rfl; have hfb452_3 := blk_frozen hk1_ 3; have hcb452_4 := (blk_cell hk1_ 4).trans rfl; have hfb452_4 := blk_frozen hk1_ 4; clear hk1_) | ((with_reducible refine gate_callee (f := 22) rfl ?_); refine goesL_ (some 19) rfl rfl Try.func22 (by kernel_rfl) rfl #[.slice A0 l0.length c0] rfl (by (try simp only [List.map_toArray, List.map_cons, List.map_nil]); first | done | rfl | (simp only [List.length_drop, List.length_take]; rfl)) ?_; (with_reducible refine (frame_Read.calls _ _ l0 t443 t444 t445 t446 t447 t450 t451 _ ?side1 ?side2 A9.out).mono ?_); (case side1 => repeat (first | exact (Kd.C_below HR0.out HB.out) | (with_reducible refine Kd.C_alloc ?_ _) | (with_reducible refine Kd.C_drewN ?_ _) | (with_reducible refine Kd.C_drew ?_))); (case side2 => exact HC0.out); rintro e w48 ⟨v448, rfl, ho0, hb⟩; refine ⟨_, rfl, ?_⟩; have n0_ := Aside0.mk (Kd.R_lower ho0 (below_size (by repeat (first | (with_reducible first | exact HB.out | apply below_alloc | apply pw_below_drewN | apply below_drew1) | exact HB.out)))); have n1_ := Aside0.mk (below_step (by repeat (first | (with_reducible first | exact HB.out | apply below_alloc | apply pw_below_drewN | apply below_drew1) | exact HB.out)) hb); clear HB; have HO449 := n0_; have HB := n1_; clear n0_ n1_; (try clear hb); (try clear hb2); (try clear hk); (try clear hi); (try clear ho0)) | ((with_reducible refine gate_dst (N := 4) rfl ?_); (try (refine gate_guard (by rfl) ?_; dsimp only)); refine box_event ?hg (N := 4) ?hd (cs := #[.bool false, .int .i64 0, .bool false, .int .i64 0, .slice none 0 0]) (t := 24) ?hr ?_; (case hd => rfl); (case hg => rfl); (case hr => first | (go_simp; done) | (go_simp; rfl)); intro gb452 hg w49 hbox hb; have n0_ := Aside0.mk (Kd.R_below (by (with_reducible repeat (first | apply Kd.R_alloc | apply Kd.R_drewN | apply Kd.R_drew)); exact HO449.out) hb); have n1_ := Aside0.mk (below_step (by repeat (first | (with_reducible first | exact HB.out | apply below_alloc | apply pw_below_drewN | apply below_drew1) | exact HB.out)) hb); have n2_ := Aside0.mk (hbox); have n3_ := Aside0.mk ((by rw [hg]; exact (below_size (by repeat (first | (with_reducible first | exact HB.out | apply below_alloc | apply pw_below_drewN | apply below_drew1) | exact HB.out))) : w.heap.size ≤ gb452)); have n4_ := Aside0.mk ((by rw [hg]; exact (below_size (by repeat (first | (with_reducible first | exact HB.out | apply below_alloc | apply pw_below_drewN | apply below_drew1) | exact HB.out))) : w.heap.size ≤ gb452)); clear HO449; clear HB; have HO449 := n0_; have HB := n1_; have BK452 := n2_; have GW452 := n3_; have GE452 := n4_; clear n0_ n1_ n2_ n3_ n4_; clear hb hbox hg; have hcz50_0 : w49.cell? ⟨gb452, 0, none⟩ = some (.bool false) := (blk_cell BK452.out 0).trans rfl; have hcz50_1 : w49.cell? ⟨gb452, 1, none⟩ = some (.int .i64 0) := (blk_cell BK452.out 1).trans rfl; have hcz50_2 : w49.cell? ⟨gb452, 2, none⟩ = some (.bool false) := (blk_cell BK452.out 2).trans rfl; have hcz50_3 : w49.cell? ⟨gb452, 3, none⟩ = some (.int .i64 0) := (blk_cell BK452.out 3).trans rfl; have hcz50_4 : w49.cell? ⟨gb452, 4, none⟩ = some (.slice none 0 0) := (blk_cell BK452.out 4).trans rfl; have hfz50_0 := blk_frozen BK452.out 0; have hfz50_1 := blk_frozen BK452.out 1; have hfz50_2 := blk_frozen BK452.out 2; have hfz50_3 := blk_frozen BK452.out 3; have hfz50_4 := blk_frozen BK452.out 4; obtain ⟨Ao51, co51, eo51⟩ := Kd.R_slice HO449.out; subst eo51) | (go_at_call 15; (refine (phaetonref04_Same.calls t443 t444 t445 t446 _ _ t447 false 0 false 0 _ _ ([] : List Int) true _ ?side1 ?side2 ?side3 ?side4 A32.out).mono ?_); (case side1 => refine (Kd.R_reads' (e := 5) (base := w.heap.size) (ok := fun k_ => True) (n := t447.length) (c := co51) ?_).2.2; exact (by (with_reducible repeat (first | apply Kd.R_alloc | apply Kd.R_drewN | apply Kd.R_drew)); exact (Kd.R_mono (Kd.R_far (p := ⟨gb452, 4, none⟩) (Kd.R_far (p := ⟨gb452, 3, none⟩) (Kd.R_far (p := ⟨gb452, 2, none⟩) (Kd.R_far (p := ⟨gb452, 1, none⟩) (Kd.R_far (p := ⟨gb452, 0, none⟩) (Kd.R_types HO449.out BK452.out (by decide)) (fun _ hk => hk.2) (.bool t443)) (fun _ hk => hk.2) (.int .i64 t444)) (fun _ hk => hk.2) (.bool t445)) (fun _ hk => hk.2) (.int .i64 t446)) (fun _ hk => hk.2) (.slice Ao51 t447.length co51)) (fun _ h_ => h_.1)))); (case side2 => exact (Kd.R_reads' HO449.out).2.1); (case side3 => exact Kd.C_nil _ _); (case side4 => exact Nat.le_refl _); rintro e w52 ⟨rfl, hb⟩; have n0_ := Aside0.mk (Kd.R_below (by (with_reducible repeat (first | apply Kd.R_alloc | apply Kd.R_drewN | apply Kd.R_drew)); exact (Kd.R_mono (Kd.R_far (p := ⟨gb452, 4, none⟩) (Kd.R_far (p := ⟨gb452, 3, none⟩) (Kd.R_far (p := ⟨gb452, 2, none⟩) (Kd.R_far (p := ⟨gb452, 1, none⟩) (Kd.R_far (p := ⟨gb452, 0, none⟩) (Kd.R_types HO449.out BK452.out (by decide)) (fun _ hk => hk.2) (.bool t443)) (fun _ hk => hk.2) (.int .i64 t444)) (fun _ hk => hk.2) (.bool t445)) (fun _ hk => hk.2) (.int .i64 t446)) (fun _ hk => hk.2) (.slice Ao51 t447.length co51)) (fun _ h_ => h_.1))) hb); have n1_ := Aside0.mk (blk_below (g := gb452) (o := .cells #[.bool t443, .int .i64 t444, .bool t445, .int .i64 t446, .slice Ao51 t447.length co51] 24 (0, 0)) (by (with_reducible repeat (first | refine blk_drewN ?_ _ | refine blk_drew ?_ | refine blk_alloc ?_ _)); refine blk_put (cs := #[.bool t443, .int .i64 t444, .bool t445, .int .i64 t446, .slice none 0 0]) ?_ 4 _ rfl; (with_reducible repeat (first | refine blk_drewN ?_ _ | refine blk_drew ?_ | refine blk_alloc ?_ _)); refine blk_put (cs := #[.bool t443, .int .i64 t444, .bool t445, .int .i64 0, .slice none 0 0]) ?_ 3 _ rfl; (with_reducible repeat (first | refine blk_drewN ?_ _ | refine blk_drew ?_ | refine blk_alloc ?_ _)); refine blk_put (cs := #[.bool t443, .int .i64 t444, .bool false, .int .i64 0, .slice none 0 0]) ?_ 2 _ rfl; (with_reducible repeat (first | refine blk_drewN ?_ _ | refine blk_drew ?_ | refine blk_alloc ?_ _)); refine blk_put (cs := #[.bool t443, .int .i64 0, .bool false, .int .i64 0, .slice none 0 0]) ?_ 1 _ rfl; (with_reducible repeat (first | refine blk_drewN ?_ _ | refine blk_drew ?_ | refine blk_alloc ?_ _)); refine blk_put (cs := #[.bool false, .int .i64 0, .bool false, .int .i64 0, .slice none 0 0]) ?_ 0 _ rfl; (with_reducible repeat (first | refine blk_drewN ?_ _ | refine blk_drew ?_ | refine blk_alloc ?_ _)); exact BK452.out) hb); have n2_ := Aside0.mk (below_step (by repeat (first | (with_reducible first | exact HB.out | apply below_alloc | apply pw_below_drewN | apply below_drew1 | refine below_set ?_ GE452.out) | exact HB.out)) hb); clear HO449; clear BK452; clear HB; have HO449 := n0_; have BK452 := n1_; have HB := n2_; clear n0_ n1_ n2_; (try clear hb); (try clear hb2); (try clear hk); (try clear hi)))
                      go_ret
                      exact ⟨by first | rfl | (simp [errW_none, errW_some] <;> rfl) | (simp [*, errW_none, errW_some] <;> rfl), by repeat (first | (with_reducible first | exact HB.out | apply below_alloc | apply pw_below_drewN | apply below_drew1 | refine below_set ?_ GE452.out) | exact HB.out)⟩
                    · rw [if_neg c47] at H
                      exact absurd H (by simp)
              · rw [if_neg c34] at H
                exact absurd H (by simp)
            · replace c33 := Bool.eq_false_iff.mpr c33
              subst c33
              have H1 : (none) = some r := by rw [if_neg (show ¬ (false = true) by decide)] at H; exact H
              clear H
              have H := H1
              clear H1
              exact absurd H (by simp)
          · replace c31 := Bool.eq_false_iff.mpr c31
            subst c31
            have H1 : (none) = some r := by rw [if_neg (show ¬ (false = true) by decide)] at H; exact H
            clear H
            have H := H1
            clear H1
            exact absurd H (by simp)

/-- THE ONE PURE STATEMENT of phaetonlaw04_FrameBits: yours. -/
def phaetonlaw04_FrameBits.Pure : Prop := ∀ (l0 : List Int), l0.length ≤ maxLen → l0.length * 8 ≤ 140737488351232 → (∀ x ∈ l0, (Lit.int .i64 x).wf = true) → ∃ k, phaetonlaw04_FrameBits.f k l0 = some true
theorem phaetonlaw04_FrameBits.walk (P : phaetonlaw04_FrameBits.Pure) (a0 : Option Addr) (len0 cap0 : Nat) (z0 : List Int) (w : World) (w0 : (a0 = none ∧ len0 = 0 ∧ cap0 = 0 ∧ z0 = []) ∨ ∃ x, a0 = some x ∧ len0 ≤ cap0 ∧ cap0 ≤ maxLen ∧ z0.length = cap0 ∧ (∀ i, i < z0.length → w.cell? (x.add i) = some (.int .i64 (z0.getD i 0))) ∧ ∀ n ∈ z0, (Lit.int .i64 n).wf = true) (y0 : len0 * 8 ≤ 140737488351232) :
    Calls Try.prog 5 #[.slice a0 len0 cap0] w fun e w' => e = .returned (.bool true) ∧ Below w.heap.size w w' := by
  obtain ⟨l0, rfl, hr0, hm0, hw0, hc0⟩ := ReadsInt.ofRowC w0
  obtain ⟨k, h⟩ := P l0 hm0 y0 hw0
  refine (phaetonlaw04_FrameBits.calls k _ _ l0 true w (Kd.C_of_reads (d := (0 : Int)) (h1 := fun _ => rfl) hr0) hc0 h).mono ?_
  rintro e w' ⟨rfl, hd⟩
  exact ⟨rfl, hd⟩

end Go.Proofs.Ytiphbgcmbbfpmaa.Px

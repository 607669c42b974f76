-- Written by myprint.py, a program of this session's, over the kit's print.py; not a text of print.sh's own.
import Derived.Test.YtfgbcpdlhdgofaaHandCarry
import Derived.Test.YtfgbcpdlhdgofaaHandBox
import Derived.Test.YtfgbcpdlhdgofaaPx0
import Derived.Test.YtfgbcpdlhdgofaaPx2
import Derived.Test.YtfgbcpdlhdgofaaPx5
import Derived.Test.YtfgbcpdlhdgofaaPx6
import Derived.Test.YtfgbcpdlhdgofaaPx7
namespace Go.Proofs.Ytfgbcpdlhdgofaa.Px
open Go.RowKit Go.Proofs.YtfgbcpdlhdgofaaW.PrintWords Go.Proofs.YtfgbcpdlhdgofaaW.PrintLast Go.Proofs.YtfgbcpdlhdgofaaW.PrintMore
attribute [local go_sem] max2_int min2_int max_two min_two max_three min_three max_four min_four   -- for this text's walks alone
set_option linter.unusedVariables false
set_option linter.unusedSimpArgs false

/-! ### phaetonlaw24_ImageFields: function 9 -/
def phaetonlaw24_ImageFields.j0 : Nat → Int → Bool → List Int → Bool → Bool → Int → List Int → Option (Bool)
  | 0, _, _, _, _, _, _, _ => none
  | k + 1, x1, x5, x6, x7, x24, x438000, x438001 => if x24 = true then (if x7 = true then (none) else (if x5 = true then (some true) else (none))) else ((some (([] : List Int) : List Int)).bind fun y447 => (if 14 ≤ (x6.length : Int) then ((some (x6.take 14 : List Int)).bind fun y450 => (if y447.length + y450.length < 140737488355328 then ((some (y447 ++ y450 : List Int)).bind fun y454 => (if y454.length + x438001.length < 140737488355328 then (if 0 < (x6.length : Int) then (if (rd x6 0) = 80 then (if 1 < (x6.length : Int) then (if (rd x6 1) = 72 then ((phaetonref24_Number.f x6 2).bind fun t462 => (if t462 = x438000 then ((phaetonref24_Number.f x6 6).bind fun t463 => (if t463 = (x438001.length : Int) then ((phaetonref24_Number.f x6 14).bind fun t464 => ((image_Seal.f k (y454 ++ x438001) x1).bind fun t465 => (if t464 = t465 then (if 18 ≤ (x6.length : Int) then (if (strOfNums (x6.drop 18)).toList = (strOfNums x438001).toList then (if x5 = true then (some true) else (none)) else (none)) else (none)) else (none)))) else (none))) else (none))) else (none)) else (none)) else (none)) else (none)) else (none))) else (none))) else (none)))
def phaetonlaw24_ImageFields.f (k : Nat) (a0_0 : Int) (l0_1 : List Int) (a1 : Int) : Option (Bool) := (phaetonlaw24_head.f k).bind fun t438 => ((phaetonlaw24_Cut.f a0_0 l0_1).bind fun bt439 => ((image_Pack.f k bt439.1 bt439.2 a1).bind fun bt443 => (if bt443.2 = true then (phaetonlaw24_ImageFields.j0 k a1 t438 bt443.1 bt443.2 (decide ((bt443.1.length : Int) < 19)) bt439.1 bt439.2) else (phaetonlaw24_ImageFields.j0 k a1 t438 bt443.1 bt443.2 true bt439.1 bt439.2))))
theorem phaetonlaw24_ImageFields.mono_l : ∀ k, (∀ y0 y1 y2 y3 y4 y5 y6, LeO (phaetonlaw24_ImageFields.j0 k y0 y1 y2 y3 y4 y5 y6) (phaetonlaw24_ImageFields.j0 (k + 1) y0 y1 y2 y3 y4 y5 y6))
  | 0 => fun _ _ _ _ _ _ _ r h => by simp [phaetonlaw24_ImageFields.j0] at h
  | k + 1 => by
    have ih0 := phaetonlaw24_ImageFields.mono_l k
    · intro y0 y1 y2 y3 y4 y5 y6
      unfold phaetonlaw24_ImageFields.j0
      repeat' first
      | (with_reducible exact ih0 _ _ _ _ _ _ _)
      | (with_reducible exact image_Pack.mono _ _ _ _)
      | (with_reducible exact image_Seal.mono _ _ _)
      | (with_reducible exact phaetonlaw24_head.mono _)
      | (with_reducible exact LeO.refl _)
      | (with_reducible exact LeO.none _)
      | (with_reducible refine LeO.ite ?_ ?_)
      | (with_reducible refine LeO.bind ?_ (fun _ => ?_))
      | exact ih0 _ _ _ _ _ _ _
      | exact image_Pack.mono _ _ _ _
      | exact image_Seal.mono _ _ _
      | exact phaetonlaw24_head.mono _
      | exact LeO.none _
      | refine LeO.ite ?_ ?_
      | refine LeO.bind ?_ (fun _ => ?_)
theorem phaetonlaw24_ImageFields.mono : ∀ a0 a1 a2 k, LeO (phaetonlaw24_ImageFields.f k a0 a1 a2) (phaetonlaw24_ImageFields.f (k + 1) a0 a1 a2) := by
  intro a0 a1 a2 k
  have ih0 := phaetonlaw24_ImageFields.mono_l k
  unfold phaetonlaw24_ImageFields.f
  repeat' first
      | (with_reducible exact ih0 _ _ _ _ _ _ _)
      | (with_reducible exact image_Pack.mono _ _ _ _)
      | (with_reducible exact image_Seal.mono _ _ _)
      | (with_reducible exact phaetonlaw24_head.mono _)
      | (with_reducible exact LeO.refl _)
      | (with_reducible exact LeO.none _)
      | (with_reducible refine LeO.ite ?_ ?_)
      | (with_reducible refine LeO.bind ?_ (fun _ => ?_))
      | exact ih0 _ _ _ _ _ _ _
      | exact image_Pack.mono _ _ _ _
      | exact image_Seal.mono _ _ _
      | exact phaetonlaw24_head.mono _
      | exact LeO.none _
      | refine LeO.ite ?_ ?_
      | refine LeO.bind ?_ (fun _ => ?_)
def phaetonlaw24_ImageFields.T8 : Bool × List (List Nat × List Nat) := (true, [([], []), ([0], [0]), ([1], [1]), ([2], [2]), ([3], [3]), ([4], [4]), ([5, 4], [4, 5]), ([6, 4], [4, 6]), ([7, 4], [4, 7]), ([4, 8], [4, 8]), ([9, 4], [9]), ([10], [10]), ([11, 10, 10], [10, 11]), ([10], [10]), ([13, 10], [10, 13]), ([12, 14, 10], [10, 12, 14]), ([10, 15], [10, 15]), ([16, 12], [16]), ([17], [17]), ([18, 17, 17], [17, 18]), ([17], [17]), ([20, 17], [17, 20]), ([21, 17], [17, 21]), ([19, 22, 17], [17, 19, 22]), ([17, 23], [17, 23]), ([24, 19], [24]), ([25], [25]), ([26, 25, 25], [25, 26]), ([25], [25]), ([25], [25]), ([28, 29, 27, 25], [25, 28, 29]), ([27, 30, 25], [25, 27, 30]), ([25, 31], [25, 31]), ([32, 30], [32]), ([33], [33]), ([34, 33], [33, 34]), ([35, 33], [33, 35]), ([33], [33]), ([37, 33], [33, 37]), ([38, 33], [33, 38]), ([36, 39, 33], [33, 36, 39]), ([33, 40], [33, 40]), ([41, 33], [41]), ([42], [42]), ([42, 43], [42, 43]), ([44, 42, 0, 1, 2, 3, 4, 5, 6, 7, 8, 9, 10, 11, 12, 13, 14, 15, 16, 17, 18, 19, 20, 21, 22, 23, 24, 25, 26, 27, 28, 29, 30, 31, 32, 33, 34, 35, 36, 37, 38, 39, 40, 41, 42, 43, 44], [44])])
def phaetonlaw24_ImageFields.B8 : List Nat := [0, 1, 3, 7, 15, 31, 63, 127, 255, 511, 1023, 2047, 4095, 2047, 10239, 32767, 65535, 131071, 262143, 524287, 262143, 1310719, 3407871, 8388607, 16777215, 33554431, 67108863, 134217727, 67108863, 67108863, 1073741823, 2147483647, 4294967295, 8589934591, 17179869183, 34359738367, 68719476735, 17179869183, 154618822655, 429496729599, 1099511627775, 2199023255551, 4398046511103, 8796093022207, 17592186044415, 35184372088831]
theorem phaetonlaw24_ImageFields.tab8 : rtab .any (opsOf Try.f9 8) = phaetonlaw24_ImageFields.T8 := by kernel_rfl
theorem phaetonlaw24_ImageFields.bits8 : waitsOk phaetonlaw24_ImageFields.T8.2 phaetonlaw24_ImageFields.B8 = true := by kernel_rfl
set_option maxHeartbeats 8000000 in
set_option maxRecDepth 100000 in
theorem phaetonlaw24_ImageFields.calls (k : Nat) (a0_0 : Int) (A0_1 : Option Addr) (c0_1 : Nat) (l0_1 : List Int) (a1 : Int) (r : Bool) (w : World) (hr0_1 : Kd.C (Kd.int .u8) w A0_1 l0_1.length l0_1) (hc0_1 : l0_1.length ≤ c0_1) (h : phaetonlaw24_ImageFields.f k a0_0 l0_1 a1 = some r) :
    Calls Try.prog 9 #[.agg #[.int .i64 a0_0, .slice A0_1 l0_1.length c0_1], .int .i64 a1] w fun e w' => e = .returned (.bool r) ∧ Below w.heap.size w w' := by
  have hu24 := Try.underlying24
  have HR0_1 := Aside0.mk hr0_1
  have HC0_1 := Aside0.mk hc0_1
  clear hr0_1 hc0_1
  have HB := Aside0.mk (Below.refl w.heap.size w)
  have H : ((phaetonlaw24_head.f k).bind fun t438 => ((phaetonlaw24_Cut.f a0_0 l0_1).bind fun bt439 => ((image_Pack.f k bt439.1 bt439.2 a1).bind fun bt443 => (if bt443.2 = true then (phaetonlaw24_ImageFields.j0 k a1 t438 bt443.1 bt443.2 (decide ((bt443.1.length : Int) < 19)) bt439.1 bt439.2) else (phaetonlaw24_ImageFields.j0 k a1 t438 bt443.1 bt443.2 true bt439.1 bt439.2))))) = some r := h
  clear h
  replace H := Option.bind_eq_some_iff.mp H
  obtain ⟨t438, A30, H⟩ := H
  replace H : ((phaetonlaw24_Cut.f a0_0 l0_1).bind fun bt439 => ((image_Pack.f k bt439.1 bt439.2 a1).bind fun bt443 => (if bt443.2 = true then (phaetonlaw24_ImageFields.j0 k a1 t438 bt443.1 bt443.2 (decide ((bt443.1.length : Int) < 19)) bt439.1 bt439.2) else (phaetonlaw24_ImageFields.j0 k a1 t438 bt443.1 bt443.2 true bt439.1 bt439.2)))) = some r := H
  have A3 := Aside0.mk A30
  clear A30
  replace H := Option.bind_eq_some_iff.mp H
  obtain ⟨⟨t439, t440⟩, A40, H⟩ := H
  replace H : ((image_Pack.f k t439 t440 a1).bind fun bt443 => (if bt443.2 = true then (phaetonlaw24_ImageFields.j0 k a1 t438 bt443.1 bt443.2 (decide ((bt443.1.length : Int) < 19)) t439 t440) else (phaetonlaw24_ImageFields.j0 k a1 t438 bt443.1 bt443.2 true t439 t440))) = some r := H
  have A4 := Aside0.mk A40
  clear A40
  replace H := Option.bind_eq_some_iff.mp H
  obtain ⟨⟨t443, t446⟩, A50, H⟩ := H
  replace H : (if t446 = true then (phaetonlaw24_ImageFields.j0 k a1 t438 t443 t446 (decide ((t443.length : Int) < 19)) t439 t440) else (phaetonlaw24_ImageFields.j0 k a1 t438 t443 t446 true t439 t440)) = some r := H
  have A5 := Aside0.mk A50
  clear A50
  have HC6 := Aside0.mk H
  clear H
  go_enter Try.func9, Try.ntmps9
  (try simp only [List.append])
  go_upto_region 4 with (first | ((with_reducible refine gate_dst (N := 2) rfl ?_); (try (refine gate_guard (by rfl) ?_; dsimp only)); refine box_event ?hg (N := 2) ?hd (cs := #[.int .i64 a0_0, .slice A0_1 l0_1.length c0_1]) (t := 24) ?hr ?_; (case hd => rfl); (case hg => rfl); (case hr => first | (go_simp; done) | (go_simp; rfl)); intro gb437 hg w7 hbox hb; have n0_ := Aside0.mk (below_step (by repeat (first | (with_reducible first | exact HB.out | apply below_alloc | apply pw_below_drewN | apply below_drew1) | exact HB.out)) hb); have n1_ := Aside0.mk (hbox); have n2_ := Aside0.mk ((by rw [hg]; exact (below_size (by repeat (first | (with_reducible first | exact HB.out | apply below_alloc | apply pw_below_drewN | apply below_drew1) | exact HB.out))) : w.heap.size ≤ gb437)); have n3_ := Aside0.mk ((by rw [hg]; exact (below_size (by repeat (first | (with_reducible first | exact HB.out | apply below_alloc | apply pw_below_drewN | apply below_drew1) | exact HB.out))) : w.heap.size ≤ gb437)); clear HB; have HB := n0_; have BK437 := n1_; have GW437 := n2_; have GE437 := n3_; clear n0_ n1_ n2_ n3_; clear hb hbox hg) | ((with_reducible refine gate_callee (f := 11) rfl ?_); refine goesL_ (some 9) rfl rfl Try.func11 (by kernel_rfl) rfl #[] rfl (by (try simp only [List.map_toArray, List.map_cons, List.map_nil]); first | done | rfl | (simp only [List.length_drop, List.length_take]; rfl)) ?_; (with_reducible refine (phaetonlaw24_head.calls k  t438 _ A3.out).mono ?_); rintro e w8 ⟨rfl, hb⟩; refine ⟨_, rfl, ?_⟩; have n0_ := Aside0.mk (blk_below (g := gb437) (o := .cells #[.int .i64 a0_0, .slice A0_1 l0_1.length c0_1] 24 (0, 0)) (by (with_reducible repeat (first | refine blk_drewN ?_ _ | refine blk_drew ?_ | refine blk_alloc ?_ _)); exact BK437.out) hb); have n1_ := Aside0.mk (below_step (by repeat (first | (with_reducible first | exact HB.out | apply below_alloc | apply pw_below_drewN | apply below_drew1 | refine below_set ?_ GE437.out) | exact HB.out)) hb); clear BK437; clear HB; have BK437 := n0_; have HB := n1_; clear n0_ n1_; (try clear hb); (try clear hb2); (try clear hk); (try clear hi); have hcz9_0 : w8.cell? ⟨gb437, 0, none⟩ = some (.int .i64 a0_0) := (blk_cell BK437.out 0).trans rfl; have hcz9_1 : w8.cell? ⟨gb437, 1, none⟩ = some (.slice A0_1 l0_1.length c0_1) := (blk_cell BK437.out 1).trans rfl; have hfz9_0 := blk_frozen BK437.out 0; have hfz9_1 := blk_frozen BK437.out 1) | ((with_reducible refine gate_callee (f := 12) rfl ?_); refine goesL_ (some 11) rfl rfl Try.func12 (by kernel_rfl) rfl #[.agg #[.int .i64 a0_0, .slice A0_1 l0_1.length c0_1]] rfl (by (try simp only [List.map_toArray, List.map_cons, List.map_nil]); first | done | rfl | (simp only [List.length_drop, List.length_take]; rfl)) ?_; (with_reducible refine (phaetonlaw24_Cut.calls a0_0 _ _ l0_1 t439 t440 _ ?side1 ?side2 A4.out).mono ?_); (case side1 => repeat (first | exact (Kd.C_below HR0_1.out HB.out) | (with_reducible refine Kd.C_alloc ?_ _) | (with_reducible refine Kd.C_drewN ?_ _) | (with_reducible refine Kd.C_drew ?_))); (case side2 => exact HC0_1.out); rintro e w10 ⟨v441, rfl, ho0, hb⟩; refine ⟨_, rfl, ?_⟩; have n0_ := Aside0.mk (Kd.R_lower ho0 (below_size (by repeat (first | (with_reducible first | exact HB.out | apply below_alloc | apply pw_below_drewN | apply below_drew1 | refine below_set ?_ GE437.out) | exact HB.out)))); have n1_ := Aside0.mk (blk_below (g := gb437) (o := .cells #[.int .i64 a0_0, .slice A0_1 l0_1.length c0_1] 24 (0, 0)) (by (with_reducible repeat (first | refine blk_drewN ?_ _ | refine blk_drew ?_ | refine blk_alloc ?_ _)); exact BK437.out) hb); have n2_ := Aside0.mk (below_step (by repeat (first | (with_reducible first | exact HB.out | apply below_alloc | apply pw_below_drewN | apply below_drew1 | refine below_set ?_ GE437.out) | exact HB.out)) hb); clear BK437; clear HB; have HO442 := n0_; have BK437 := n1_; have HB := n2_; clear n0_ n1_ n2_; (try clear hb); (try clear hb2); (try clear hk); (try clear hi); (try clear ho0); have hcz11_0 : w10.cell? ⟨gb437, 0, none⟩ = some (.int .i64 a0_0) := (blk_cell BK437.out 0).trans rfl; have hcz11_1 : w10.cell? ⟨gb437, 1, none⟩ = some (.slice A0_1 l0_1.length c0_1) := (blk_cell BK437.out 1).trans rfl; have hfz11_0 := blk_frozen BK437.out 0; have hfz11_1 := blk_frozen BK437.out 1; obtain ⟨Ao12, co12, eo12⟩ := Kd.R_slice HO442.out; subst eo12) | ((with_reducible refine gate_callee (f := 13) rfl ?_); refine goesL_ (some 15) rfl rfl Try.func13 (by kernel_rfl) rfl #[.agg #[.int .i64 t439, .slice Ao12 t440.length co12], .int .i64 a1] rfl (by (try simp only [List.map_toArray, List.map_cons, List.map_nil]); first | done | rfl | (simp only [List.length_drop, List.length_take]; rfl)) ?_; (with_reducible refine (image_Pack.calls k t439 _ _ t440 a1 t443 t446 _ ?side1 ?side2 A5.out).mono ?_); (case side1 => refine (Kd.R_reads' (e := 5) (base := w.heap.size) (ok := fun k_ => True) (n := t440.length) (c := co12) ?_).2.2; exact (by (with_reducible repeat (first | apply Kd.R_alloc | apply Kd.R_drewN | apply Kd.R_drew)); exact (Kd.R_mono (Kd.R_far (p := ⟨gb437, 1, none⟩) (Kd.R_far (p := ⟨gb437, 0, none⟩) (Kd.R_types HO442.out BK437.out (by decide)) (fun _ hk => hk.2) (.int .i64 t439)) (fun _ hk => hk.2) (.slice Ao12 t440.length co12)) (fun _ h_ => h_.1)))); (case side2 => exact (Kd.R_reads' HO442.out).2.1); rintro e w13 ⟨v444, rfl, ho0, hb⟩; refine ⟨_, rfl, ?_⟩; have n0_ := Aside0.mk (Kd.R_elder' (by (with_reducible repeat (first | apply Kd.R_alloc | apply Kd.R_drewN | apply Kd.R_drew)); exact (Kd.R_mono (Kd.R_far (p := ⟨gb437, 1, none⟩) (Kd.R_far (p := ⟨gb437, 0, none⟩) (Kd.R_types HO442.out BK437.out (by decide)) (fun _ hk => hk.2) (.int .i64 t439)) (fun _ hk => hk.2) (.slice Ao12 t440.length co12)) (fun _ h_ => h_.1))) (Kd.R_base ho0) hb); have n1_ := Aside0.mk (Kd.R_lower (Kd.R_new' ho0 (Kd.R_lt (by (with_reducible repeat (first | apply Kd.R_alloc | apply Kd.R_drewN | apply Kd.R_drew)); exact (Kd.R_mono (Kd.R_far (p := ⟨gb437, 1, none⟩) (Kd.R_far (p := ⟨gb437, 0, none⟩) (Kd.R_types HO442.out BK437.out (by decide)) (fun _ hk => hk.2) (.int .i64 t439)) (fun _ hk => hk.2) (.slice Ao12 t440.length co12)) (fun _ h_ => h_.1))))) (below_size (by repeat (first | (with_reducible first | exact HB.out | apply below_alloc | apply pw_below_drewN | apply below_drew1 | refine below_set ?_ GE437.out) | exact HB.out)))); have n2_ := Aside0.mk (blk_below (g := gb437) (o := .cells #[.int .i64 t439, .slice Ao12 t440.length co12] 24 (0, 0)) (by (with_reducible repeat (first | refine blk_drewN ?_ _ | refine blk_drew ?_ | refine blk_alloc ?_ _)); refine blk_put (cs := #[.int .i64 t439, .slice A0_1 l0_1.length c0_1]) ?_ 1 _ rfl; (with_reducible repeat (first | refine blk_drewN ?_ _ | refine blk_drew ?_ | refine blk_alloc ?_ _)); refine blk_put (cs := #[.int .i64 a0_0, .slice A0_1 l0_1.length c0_1]) ?_ 0 _ rfl; (with_reducible repeat (first | refine blk_drewN ?_ _ | refine blk_drew ?_ | refine blk_alloc ?_ _)); exact BK437.out) hb); have n3_ := Aside0.mk (below_step (by repeat (first | (with_reducible first | exact HB.out | apply below_alloc | apply pw_below_drewN | apply below_drew1 | refine below_set ?_ GE437.out) | exact HB.out)) hb); clear HO442; clear BK437; clear HB; have HO442 := n0_; have HO445 := n1_; have BK437 := n2_; have HB := n3_; clear n0_ n1_ n2_ n3_; (try clear hb); (try clear hb2); (try clear hk); (try clear hi); (try clear ho0)))
  (try simp only [Act.put, List.setIfInBounds_toArray, List.set_cons_zero, List.set_cons_succ])
  go_cut [24] (fun v24 wc => ∃ (kq : Nat) (x24_5 : Bool), v24 = .bool x24_5 ∧ Aside0 (phaetonlaw24_ImageFields.j0 kq a1 t438 t443 t446 x24_5 t439 t440 = some r) ∧ Aside0 (kq ≤ k) ∧ Aside0 (Kd.R (Kd.int .u8) 5 wc w.heap.size (fun k_ => some k_ ≠ ((.slice Ao12 t440.length co12) : Value).ownBlock) v444 t443) ∧ Aside0 (Kd.R (Kd.int .u8) 5 wc w.heap.size (fun k_ => some k_ ≠ (v444 : Value).ownBlock) (.slice Ao12 t440.length co12) t440) ∧ Aside0 (wc.heap[gb437]? = some (.cells #[.int .i64 t439, (.slice Ao12 t440.length co12)] 24 (0, 0))) ∧ Aside0 (Below w.heap.size w wc))
  case first =>
    have H := HC6.out
    clear HC6
    by_cases c14 : t446 = true
    · subst c14
      have H1 : (phaetonlaw24_ImageFields.j0 k a1 t438 t443 true (decide ((t443.length : Int) < 19)) t439 t440) = some r := by rw [if_pos rfl] at H; exact H
      clear H
      have H := H1
      clear H1
      have H' := Aside0.mk H
      clear H
      obtain ⟨Ao15, co15, eo15⟩ := Kd.R_slice HO445.out
      subst eo15
      go_wp2
      go_meet
      case rel => exact ⟨_, (decide ((t443.length : Int) < 19)), (by first | rfl | (simp; done) | (simp [*]; done)), H', ⟨by first | omega | exact Nat.le_refl _⟩, ⟨by (with_reducible repeat (first | apply Kd.R_alloc | apply Kd.R_drewN | apply Kd.R_drew)); exact Kd.R_mono HO445.out (fun _ hk => hk.2)⟩, ⟨by (with_reducible repeat (first | apply Kd.R_alloc | apply Kd.R_drewN | apply Kd.R_drew)); exact Kd.R_mono HO442.out (fun _ hk => hk.2)⟩, ⟨by (with_reducible repeat (first | refine blk_drewN ?_ _ | refine blk_drew ?_ | refine blk_alloc ?_ _)); exact BK437.out⟩, ⟨by repeat (first | (with_reducible first | exact HB.out | apply below_alloc | apply pw_below_drewN | apply below_drew1 | refine below_set ?_ GE437.out) | exact HB.out)⟩⟩
    · replace c14 := Bool.eq_false_iff.mpr c14
      subst c14
      have H1 : (phaetonlaw24_ImageFields.j0 k a1 t438 t443 false true t439 t440) = some r := by rw [if_neg (show ¬ (false = true) by decide)] at H; exact H
      clear H
      have H := H1
      clear H1
      have H' := Aside0.mk H
      clear H
      go_wp2
      go_meet
      case rel => exact ⟨_, (true), (by first | rfl | (simp; done) | (simp [*]; done)), H', ⟨by first | omega | exact Nat.le_refl _⟩, ⟨by (with_reducible repeat (first | apply Kd.R_alloc | apply Kd.R_drewN | apply Kd.R_drew)); exact Kd.R_mono HO445.out (fun _ hk => hk.2)⟩, ⟨by (with_reducible repeat (first | apply Kd.R_alloc | apply Kd.R_drewN | apply Kd.R_drew)); exact Kd.R_mono HO442.out (fun _ hk => hk.2)⟩, ⟨by (with_reducible repeat (first | refine blk_drewN ?_ _ | refine blk_drew ?_ | refine blk_alloc ?_ _)); exact BK437.out⟩, ⟨by repeat (first | (with_reducible first | exact HB.out | apply below_alloc | apply pw_below_drewN | apply below_drew1 | refine below_set ?_ GE437.out) | exact HB.out)⟩⟩
  case rest =>
    clear HC6
    try clear c1
    try clear p2
    try clear c9
    try clear c11
    try clear c12
    try clear c13
    try clear c14
    try clear hcz11_0
    try clear hcz11_1
    try clear hcz9_0
    try clear hcz9_1
    try clear hfz11_0
    try clear hfz11_1
    try clear hfz9_0
    try clear hfz9_1
    obtain ⟨kq, x24_5, rfl, HA, HJ5, HO_6, HO_438001, BK437, HB⟩ := hcut
    cases kq with
    | zero => exact absurd HA.out (by simp [phaetonlaw24_ImageFields.j0])
    | succ kj5 =>
      have H := HA.out
      clear HA
      simp only [phaetonlaw24_ImageFields.j0] at H
      by_cases c16 : x24_5 = true
      · subst c16
        have H1 : (if t446 = true then (none) else (if t438 = true then (some true) else (none))) = some r := by rw [if_pos rfl] at H; exact H
        clear H
        have H := H1
        clear H1
        by_cases c17 : t446 = true
        · subst c17
          have H1 : (none) = some r := by rw [if_pos rfl] at H; exact H
          clear H
          have H := H1
          clear H1
          exact absurd H (by simp)
        · replace c17 := Bool.eq_false_iff.mpr c17
          subst c17
          have H1 : (if t438 = true then (some true) else (none)) = some r := by rw [if_neg (show ¬ (false = true) by decide)] at H; exact H
          clear H
          have H := H1
          clear H1
          by_cases c18 : t438 = true
          · subst c18
            have H1 : (some true) = some r := by rw [if_pos rfl] at H; exact H
            clear H
            have H := H1
            clear H1
            obtain rfl := Option.some.inj H
            go_wp2
            go_ret
            exact ⟨by first | rfl | (simp [errW_none, errW_some] <;> rfl) | (simp [*, errW_none, errW_some] <;> rfl), by repeat (first | (with_reducible first | exact HB.out | apply below_alloc | apply pw_below_drewN | apply below_drew1 | refine below_set ?_ GE437.out) | exact HB.out)⟩
          · replace c18 := Bool.eq_false_iff.mpr c18
            subst c18
            have H1 : (none) = some r := by rw [if_neg (show ¬ (false = true) by decide)] at H; exact H
            clear H
            have H := H1
            clear H1
            exact absurd H (by simp)
      · replace c16 := Bool.eq_false_iff.mpr c16
        subst c16
        have H1 : ((some (([] : List Int) : List Int)).bind fun y447 => (if 14 ≤ (t443.length : Int) then ((some (t443.take 14 : List Int)).bind fun y450 => (if y447.length + y450.length < 140737488355328 then ((some (y447 ++ y450 : List Int)).bind fun y454 => (if y454.length + t440.length < 140737488355328 then (if 0 < (t443.length : Int) then (if (rd t443 0) = 80 then (if 1 < (t443.length : Int) then (if (rd t443 1) = 72 then ((phaetonref24_Number.f t443 2).bind fun t462 => (if t462 = t439 then ((phaetonref24_Number.f t443 6).bind fun t463 => (if t463 = (t440.length : Int) then ((phaetonref24_Number.f t443 14).bind fun t464 => ((image_Seal.f kj5 (y454 ++ t440) a1).bind fun t465 => (if t464 = t465 then (if 18 ≤ (t443.length : Int) then (if (strOfNums (t443.drop 18)).toList = (strOfNums t440).toList then (if t438 = true then (some true) else (none)) else (none)) else (none)) else (none)))) else (none))) else (none))) else (none)) else (none)) else (none)) else (none)) else (none))) else (none))) else (none))) = some r := by rw [if_neg (show ¬ (false = true) by decide)] at H; exact H
        clear H
        have H := H1
        clear H1
        obtain ⟨y447, hy447⟩ : ∃ y_ : List Int, y_ = (([] : List Int)) := ⟨_, rfl⟩
        replace H : (if 14 ≤ (t443.length : Int) then ((some (t443.take 14 : List Int)).bind fun y450 => (if y447.length + y450.length < 140737488355328 then ((some (y447 ++ y450 : List Int)).bind fun y454 => (if y454.length + t440.length < 140737488355328 then (if 0 < (t443.length : Int) then (if (rd t443 0) = 80 then (if 1 < (t443.length : Int) then (if (rd t443 1) = 72 then ((phaetonref24_Number.f t443 2).bind fun t462 => (if t462 = t439 then ((phaetonref24_Number.f t443 6).bind fun t463 => (if t463 = (t440.length : Int) then ((phaetonref24_Number.f t443 14).bind fun t464 => ((image_Seal.f kj5 (y454 ++ t440) a1).bind fun t465 => (if t464 = t465 then (if 18 ≤ (t443.length : Int) then (if (strOfNums (t443.drop 18)).toList = (strOfNums t440).toList then (if t438 = true then (some true) else (none)) else (none)) else (none)) else (none)))) else (none))) else (none))) else (none)) else (none)) else (none)) else (none)) else (none))) else (none))) else (none)) = some r := by first | (rw [hy447]; with_reducible exact H) | (have H2_ := (Option.bind_some _ _).symm.trans H; rw [hy447]; with_reducible exact H2_) | (have H2_ := (Option.bind_some _ _).symm.trans H; with_reducible exact H2_) | with_reducible exact H | (rw [hy447]; exact H) | exact H
        have Ny447 := Aside0.mk hy447
        clear hy447
        by_cases c19 : 14 ≤ (t443.length : Int)
        · rw [if_pos c19] at H
          have c19b0 := eq_true c19
          have c19b1 : decide (14 ≤ (t443.length : Int)) = true := decide_eq_true c19
          clear c19
          obtain ⟨y450, hy450⟩ : ∃ y_ : List Int, y_ = (t443.take 14) := ⟨_, rfl⟩
          replace H : (if y447.length + y450.length < 140737488355328 then ((some (y447 ++ y450 : List Int)).bind fun y454 => (if y454.length + t440.length < 140737488355328 then (if 0 < (t443.length : Int) then (if (rd t443 0) = 80 then (if 1 < (t443.length : Int) then (if (rd t443 1) = 72 then ((phaetonref24_Number.f t443 2).bind fun t462 => (if t462 = t439 then ((phaetonref24_Number.f t443 6).bind fun t463 => (if t463 = (t440.length : Int) then ((phaetonref24_Number.f t443 14).bind fun t464 => ((image_Seal.f kj5 (y454 ++ t440) a1).bind fun t465 => (if t464 = t465 then (if 18 ≤ (t443.length : Int) then (if (strOfNums (t443.drop 18)).toList = (strOfNums t440).toList then (if t438 = true then (some true) else (none)) else (none)) else (none)) else (none)))) else (none))) else (none))) else (none)) else (none)) else (none)) else (none)) else (none))) else (none)) = some r := by first | (rw [hy450]; with_reducible exact H) | (have H2_ := (Option.bind_some _ _).symm.trans H; rw [hy450]; with_reducible exact H2_) | (have H2_ := (Option.bind_some _ _).symm.trans H; with_reducible exact H2_) | with_reducible exact H | (rw [hy450]; exact H) | exact H
          have Ny450 := Aside0.mk hy450
          clear hy450
          by_cases c20 : y447.length + y450.length < 140737488355328
          · rw [if_pos c20] at H
            have LMc20 := Aside0.mk c20
            clear c20
            obtain ⟨y454, hy454⟩ : ∃ y_ : List Int, y_ = (y447 ++ y450) := ⟨_, rfl⟩
            replace H : (if y454.length + t440.length < 140737488355328 then (if 0 < (t443.length : Int) then (if (rd t443 0) = 80 then (if 1 < (t443.length : Int) then (if (rd t443 1) = 72 then ((phaetonref24_Number.f t443 2).bind fun t462 => (if t462 = t439 then ((phaetonref24_Number.f t443 6).bind fun t463 => (if t463 = (t440.length : Int) then ((phaetonref24_Number.f t443 14).bind fun t464 => ((image_Seal.f kj5 (y454 ++ t440) a1).bind fun t465 => (if t464 = t465 then (if 18 ≤ (t443.length : Int) then (if (strOfNums (t443.drop 18)).toList = (strOfNums t440).toList then (if t438 = true then (some true) else (none)) else (none)) else (none)) else (none)))) else (none))) else (none))) else (none)) else (none)) else (none)) else (none)) else (none)) = some r := by first | (rw [hy454]; with_reducible exact H) | (have H2_ := (Option.bind_some _ _).symm.trans H; rw [hy454]; with_reducible exact H2_) | (have H2_ := (Option.bind_some _ _).symm.trans H; with_reducible exact H2_) | with_reducible exact H | (rw [hy454]; exact H) | exact H
            have Ny454 := Aside0.mk hy454
            clear hy454
            by_cases c21 : y454.length + t440.length < 140737488355328
            · rw [if_pos c21] at H
              have LMc21 := Aside0.mk c21
              clear c21
              obtain ⟨y457, hy457⟩ : ∃ y_ : List Int, y_ = (y454 ++ t440) := ⟨_, rfl⟩
              replace H : (if 0 < (t443.length : Int) then (if (rd t443 0) = 80 then (if 1 < (t443.length : Int) then (if (rd t443 1) = 72 then ((phaetonref24_Number.f t443 2).bind fun t462 => (if t462 = t439 then ((phaetonref24_Number.f t443 6).bind fun t463 => (if t463 = (t440.length : Int) then ((phaetonref24_Number.f t443 14).bind fun t464 => ((image_Seal.f kj5 y457 a1).bind fun t465 => (if t464 = t465 then (if 18 ≤ (t443.length : Int) then (if (strOfNums (t443.drop 18)).toList = (strOfNums t440).toList then (if t438 = true then (some true) else (none)) else (none)) else (none)) else (none)))) else (none))) else (none))) else (none)) else (none)) else (none)) else (none)) = some r := by first | (rw [hy457]; with_reducible exact H) | (have H2_ := (Option.bind_some _ _).symm.trans H; rw [hy457]; with_reducible exact H2_) | (have H2_ := (Option.bind_some _ _).symm.trans H; with_reducible exact H2_) | with_reducible exact H | (rw [hy457]; exact H) | exact H
              have Ny457 := Aside0.mk hy457
              clear hy457
              by_cases c22 : 0 < (t443.length : Int)
              · rw [if_pos c22] at H
                have c22b0 : decide (0 < (t443.length : Int)) = true := decide_eq_true c22
                have c22b1 : decide (0 < t443.length) = true := decide_eq_true (by omega)
                clear c22
                by_cases c23 : (rd t443 0) = 80
                · rw [if_pos c23] at H
                  have c23b0 : ((rd t443 0) == 80) = true := beq_iff_eq.mpr c23
                  have c23b1 : ((rd t443 0) != 80) = false := bne_eq_false_iff_eq.mpr c23
                  clear c23
                  by_cases c24 : 1 < (t443.length : Int)
                  · rw [if_pos c24] at H
                    have c24b0 : decide (1 < (t443.length : Int)) = true := decide_eq_true c24
                    have c24b1 : decide (1 < t443.length) = true := decide_eq_true (by omega)
                    clear c24
                    by_cases c25 : (rd t443 1) = 72
                    · rw [if_pos c25] at H
                      have c25b0 : ((rd t443 1) == 72) = true := beq_iff_eq.mpr c25
                      have c25b1 : ((rd t443 1) != 72) = false := bne_eq_false_iff_eq.mpr c25
                      clear c25
                      replace H := Option.bind_eq_some_iff.mp H
                      obtain ⟨t462, A260, H⟩ := H
                      replace H : (if t462 = t439 then ((phaetonref24_Number.f t443 6).bind fun t463 => (if t463 = (t440.length : Int) then ((phaetonref24_Number.f t443 14).bind fun t464 => ((image_Seal.f kj5 y457 a1).bind fun t465 => (if t464 = t465 then (if 18 ≤ (t443.length : Int) then (if (strOfNums (t443.drop 18)).toList = (strOfNums t440).toList then (if t438 = true then (some true) else (none)) else (none)) else (none)) else (none)))) else (none))) else (none)) = some r := H
                      have A26 := Aside0.mk A260
                      clear A260
                      by_cases c27 : t462 = t439
                      · rw [if_pos c27] at H
                        have c27b0 : (t462 == t439) = true := beq_iff_eq.mpr c27
                        have c27b1 : (t462 != t439) = false := bne_eq_false_iff_eq.mpr c27
                        clear c27
                        replace H := Option.bind_eq_some_iff.mp H
                        obtain ⟨t463, A280, H⟩ := H
                        replace H : (if t463 = (t440.length : Int) then ((phaetonref24_Number.f t443 14).bind fun t464 => ((image_Seal.f kj5 y457 a1).bind fun t465 => (if t464 = t465 then (if 18 ≤ (t443.length : Int) then (if (strOfNums (t443.drop 18)).toList = (strOfNums t440).toList then (if t438 = true then (some true) else (none)) else (none)) else (none)) else (none)))) else (none)) = some r := H
                        have A28 := Aside0.mk A280
                        clear A280
                        by_cases c29 : t463 = (t440.length : Int)
                        · rw [if_pos c29] at H
                          have c29b0 : (t463 == (t440.length : Int)) = true := beq_iff_eq.mpr c29
                          have c29b1 : (t463 != (t440.length : Int)) = false := bne_eq_false_iff_eq.mpr c29
                          clear c29
                          replace H := Option.bind_eq_some_iff.mp H
                          obtain ⟨t464, A300, H⟩ := H
                          replace H : ((image_Seal.f kj5 y457 a1).bind fun t465 => (if t464 = t465 then (if 18 ≤ (t443.length : Int) then (if (strOfNums (t443.drop 18)).toList = (strOfNums t440).toList then (if t438 = true then (some true) else (none)) else (none)) else (none)) else (none))) = some r := H
                          have A30 := Aside0.mk A300
                          clear A300
                          replace H := Option.bind_eq_some_iff.mp H
                          obtain ⟨t465, A310, H⟩ := H
                          replace H : (if t464 = t465 then (if 18 ≤ (t443.length : Int) then (if (strOfNums (t443.drop 18)).toList = (strOfNums t440).toList then (if t438 = true then (some true) else (none)) else (none)) else (none)) else (none)) = some r := H
                          have A31 := Aside0.mk A310
                          clear A310
                          by_cases c32 : t464 = t465
                          · rw [if_pos c32] at H
                            have c32b0 : (t464 == t465) = true := beq_iff_eq.mpr c32
                            have c32b1 : (t464 != t465) = false := bne_eq_false_iff_eq.mpr c32
                            clear c32
                            by_cases c33 : 18 ≤ (t443.length : Int)
                            · rw [if_pos c33] at H
                              have c33b0 := eq_true c33
                              have c33b1 : decide (18 ≤ (t443.length : Int)) = true := decide_eq_true c33
                              clear c33
                              obtain ⟨y466, hy466⟩ : ∃ y_ : List Int, y_ = (t443.drop 18) := ⟨_, rfl⟩
                              replace H : (if (strOfNums y466).toList = (strOfNums t440).toList then (if t438 = true then (some true) else (none)) else (none)) = some r := by first | (rw [hy466]; with_reducible exact H) | (have H2_ := (Option.bind_some _ _).symm.trans H; rw [hy466]; with_reducible exact H2_) | (have H2_ := (Option.bind_some _ _).symm.trans H; with_reducible exact H2_) | with_reducible exact H | (rw [hy466]; exact H) | exact H
                              have Ny466 := Aside0.mk hy466
                              clear hy466
                              by_cases c34 : (strOfNums y466).toList = (strOfNums t440).toList
                              · rw [if_pos c34] at H
                                have c34b0 : ((strOfNums y466).toList == (strOfNums t440).toList) = true := beq_iff_eq.mpr c34
                                have c34b1 : ((strOfNums y466).toList != (strOfNums t440).toList) = false := bne_eq_false_iff_eq.mpr c34
                                clear c34
                                by_cases c35 : t438 = true
                                · subst c35
                                  have H1 : (some true) = some r := by rw [if_pos rfl] at H; exact H
                                  clear H
                                  have H := H1
                                  clear H1
                                  obtain rfl := Option.some.inj H
                                  try go_wp2_with (first | ((with_reducible refine gate_store (t := 24) (p := 2) rfl ?_); refine HW.store_box2 rfl rfl 24 _ _ rfl rfl rfl BK437.out rfl (by kernel_rfl) (by intro q hq; simp only [List.mem_cons, List.not_mem_nil, or_false] at hq; rcases hq with rfl | rfl <;> rfl) ?_; intro w1_ hw1_ hk1_; simp only [List.toList_toArray, World.setCells, Nat.zero_add, Nat.reduceAdd] at hw1_; subst hw1_; have hcb437_0 := (blk_cell hk1_ 0).trans rfl; have hfb437_0 := blk_frozen hk1_ 0; have hcb437_1 := (blk_cell hk1_ 1).trans rfl; have hfb437_1 := blk_frozen hk1_ 1; clear hk1_) | ((with_reducible refine gate_dst (N := 30) rfl ?_); (try (refine gate_guard (by rfl) ?_; dsimp only)); refine Kd.R_lit (Kd.int .u8) _ 5 ?hg (N := 30) ?hd (xs := ([] : List Int)) (inner := []) (ok := fun _ => True) (okp := fun _ => True) ?hr ?hp (fun _ hk => hk) trivial (Below.refl _ _) (Nat.le_refl _) (by simp) ?_; (case hd => rfl); (case hg => rfl); (case hr => first | (go_simp; done) | (go_simp; rfl)); (case hp => exact (Reps.none _ _)); intro v448 w36 ho37 hb hg_ hnew_; clear hg_ hnew_; (first | rw [← Ny447.out] at ho37 | (simp only [Int.reduceToNat] at ho37; rw [← Ny447.out] at ho37)); have n0_ := Aside0.mk (Kd.R_elder' (by (with_reducible repeat (first | apply Kd.R_alloc | apply Kd.R_drewN | apply Kd.R_drew)); exact HO_6.out) (Kd.R_base ho37) hb); have n1_ := Aside0.mk (Kd.R_elder' (by (with_reducible repeat (first | apply Kd.R_alloc | apply Kd.R_drewN | apply Kd.R_drew)); exact HO_438001.out) (Kd.R_base ho37) hb); have n2_ := Aside0.mk (Kd.R_lower (Kd.R_new' (Kd.R_new' ho37 (Kd.R_lt (by (with_reducible repeat (first | apply Kd.R_alloc | apply Kd.R_drewN | apply Kd.R_drew)); exact HO_6.out))) (Kd.R_lt (by (with_reducible repeat (first | apply Kd.R_alloc | apply Kd.R_drewN | apply Kd.R_drew)); exact HO_438001.out))) (below_size (by repeat (first | (with_reducible first | exact HB.out | apply below_alloc | apply pw_below_drewN | apply below_drew1 | refine below_set ?_ GE437.out) | exact HB.out)))); have n3_ := Aside0.mk (blk_below (g := gb437) (o := .cells #[.int .i64 t439, .slice Ao12 t440.length co12] 24 (0, 0)) (by (with_reducible repeat (first | refine blk_drewN ?_ _ | refine blk_drew ?_ | refine blk_alloc ?_ _)); exact BK437.out) hb); have n4_ := Aside0.mk (below_step (by repeat (first | (with_reducible first | exact HB.out | apply below_alloc | apply pw_below_drewN | apply below_drew1 | refine below_set ?_ GE437.out) | exact HB.out)) hb); clear HO_6; clear HO_438001; clear BK437; clear HB; have HO_6 := n0_; have HO_438001 := n1_; have HO449 := n2_; have BK437 := n3_; have HB := n4_; clear n0_ n1_ n2_ n3_ n4_; clear hb ho37; obtain ⟨Ao39, co39, eo39⟩ := Kd.R_slice HO_6.out; subst eo39; have q38 : (14 : Int) ≤ ((t443.length : Int) : Int) := of_decide_eq_true (by first | (with_reducible assumption) | assumption); obtain ⟨i038, hi038, _, hsz38, _⟩ := info_parts info5; have hroom38 : t443.length ≤ co39 := (Kd.R_reads' HO_6.out).2.1; have hC38 : Kd.C (Kd.int .u8) _ Ao39 t443.length t443 := (Kd.R_reads' HO_6.out).2.2; have hcut38 := cut_to (P := Try.prog) 22 5 .i64 Try.underlying22 hi038 Ao39 t443.length co39 14 (by omega) q38 hroom38; have hr38 := Kd.C_take (m := 14) hC38 (by omega); have hy38 : y450.length = (14 : Int).toNat := (by rw [Ny450.out, List.length_take]; omega); rw [← Ny450.out] at hr38; rw [← hy38] at hcut38; have HR453 := Aside0.mk hr38; have HC453 := Aside0.mk (show y450.length ≤ co39 from by omega); clear hr38 hC38 hroom38 hi038 hsz38; have KY38 := Aside0.mk hy38; clear hy38; have KL38 := Aside0.mk (show 14 ≤ t443.length from by omega); replace q38 := eq_true q38) | ((with_reducible refine gate_builtin (b := .append) (xs := #[.tmp 30, .tmp 32]) rfl ?_); (try (refine gate_guard (by rfl) ?_; dsimp only)); at_builtin; refine Kd.R_append_rows (Kd.int .u8) (w0 := w) w.heap.size rfl (.tmp 30) (.tmp 32) 22 5 (.int .u8 0) 1 rfl Try.underlying22 info5 rfl (by decide) (by omega) v448 y447 y450 _ _ _ (fun k_ => some k_ ≠ (.slice Ao39 t443.length co39 : Value).ownBlock ∧ some k_ ≠ (.slice Ao12 t440.length co12 : Value).ownBlock) (fun _ => False) rfl rfl ?aO ?aR (fun _ _ h => h) (fun _ h => h.elim) ?aF ?aB ?aS ?aL ?_; (case aR => repeat (first | exact (by repeat (first | (with_reducible exact HR453.out) | (with_reducible refine Kd.C_alloc ?_ _) | (with_reducible refine Kd.C_drewN ?_ _) | (with_reducible refine Kd.C_drew ?_) | exact HR453.out)) | (with_reducible refine Kd.C_alloc ?_ _) | (with_reducible refine Kd.C_drewN ?_ _) | (with_reducible refine Kd.C_drew ?_))); (case aB => exact (by repeat (first | (with_reducible first | exact HB.out | apply below_alloc | apply pw_below_drewN | apply below_drew1 | refine below_set ?_ GE437.out) | exact HB.out))); (case aF => exact (fun k_ hk => ⟨Kd.fresh' (Kd.R_lt (by (with_reducible repeat (first | apply Kd.R_alloc | apply Kd.R_drewN | apply Kd.R_drew)); exact HO_6.out)) k_ hk, Kd.fresh' (Kd.R_lt (by (with_reducible repeat (first | apply Kd.R_alloc | apply Kd.R_drewN | apply Kd.R_drew)); exact HO_438001.out)) k_ hk⟩)); (case aO => exact (by (with_reducible repeat (first | apply Kd.R_alloc | apply Kd.R_drewN | apply Kd.R_drew)); exact Kd.R_mono HO449.out (fun k_ hk => by first | exact ⟨hk.1.2, hk.2⟩ | (refine ⟨?_, ?_⟩ <;> first | exact hk.1 | exact hk.2 | exact hk.1.2 | exact hk.2.2 | exact hk.1.1 | exact hk.2.1)))); (case aS => exact (below_size (by repeat (first | (with_reducible first | exact HB.out | apply below_alloc | apply pw_below_drewN | apply below_drew1 | refine below_set ?_ GE437.out) | exact HB.out)))); (case aL => have := LMc20.out; omega); intro v455 w40 ho hb hg hat; rw [← Ny454.out] at ho; have n0_ := Aside0.mk (Kd.R_after (ok := (fun k_ => some k_ ≠ (.slice Ao12 t440.length co12 : Value).ownBlock)) (by (with_reducible repeat (first | apply Kd.R_alloc | apply Kd.R_drewN | apply Kd.R_drew)); exact HO_6.out) hg hat); have n1_ := Aside0.mk (Kd.R_after (ok := (fun k_ => some k_ ≠ (.slice Ao39 t443.length co39 : Value).ownBlock)) (by (with_reducible repeat (first | apply Kd.R_alloc | apply Kd.R_drewN | apply Kd.R_drew)); exact HO_438001.out) hg hat); have n2_ := Aside0.mk (blk_grown (g := gb437) (o := .cells #[.int .i64 t439, .slice Ao12 t440.length co12] 24 (0, 0)) (by (with_reducible repeat (first | refine blk_drewN ?_ _ | refine blk_drew ?_ | refine blk_alloc ?_ _)); exact BK437.out) hg (Kd.R_ne HO449.out BK437.out (by decide))); have n3_ := Aside0.mk (hb); have n4_ := Aside0.mk ((show Kd.C (Kd.int .u8) w40 Ao39 y450.length y450 from by rw [Ny450.out]; exact Kd.C_take (m := 14) ((Kd.R_reads' (Kd.R_after (ok := (fun k_ => some k_ ≠ (.slice Ao12 t440.length co12 : Value).ownBlock)) (by (with_reducible repeat (first | apply Kd.R_alloc | apply Kd.R_drewN | apply Kd.R_drew)); exact HO_6.out) hg hat)).2.2) KL38.out)); have n5_ := Aside0.mk (ho); clear HO_6; clear HO_438001; clear BK437; clear HB; clear HR453; clear HO449; have HO_6 := n0_; have HO_438001 := n1_; have BK437 := n2_; have HB := n3_; have HR453 := n4_; have HO456 := n5_; clear n0_ n1_ n2_ n3_ n4_ n5_; clear ho hb hg hat; have hcz41_0 : w40.cell? ⟨gb437, 0, none⟩ = some (.int .i64 t439) := (blk_cell BK437.out 0).trans rfl; have hcz41_1 : w40.cell? ⟨gb437, 1, none⟩ = some (.slice Ao12 t440.length co12) := (blk_cell BK437.out 1).trans rfl; have hfz41_0 := blk_frozen BK437.out 0; have hfz41_1 := blk_frozen BK437.out 1) | ((with_reducible refine gate_builtin (b := .append) (xs := #[.tmp 34, .tmp 36]) rfl ?_); (try (refine gate_guard (by rfl) ?_; dsimp only)); at_builtin; refine Kd.R_append_rows (Kd.int .u8) (w0 := w) w.heap.size rfl (.tmp 34) (.tmp 36) 22 5 (.int .u8 0) 1 rfl Try.underlying22 info5 rfl (by decide) (by omega) v455 y454 t440 _ _ _ (fun k_ => some k_ ≠ (.slice Ao39 t443.length co39 : Value).ownBlock ∧ some k_ ≠ (.slice Ao12 t440.length co12 : Value).ownBlock) (fun _ => False) rfl rfl ?aO ?aR (fun _ _ h => h) (fun _ h => h.elim) ?aF ?aB ?aS ?aL ?_; (case aR => repeat (first | exact (Kd.R_reads' HO_438001.out).2.2 | (with_reducible refine Kd.C_alloc ?_ _) | (with_reducible refine Kd.C_drewN ?_ _) | (with_reducible refine Kd.C_drew ?_))); (case aB => exact (by repeat (first | (with_reducible first | exact HB.out | apply below_alloc | apply pw_below_drewN | apply below_drew1 | refine below_set ?_ GE437.out) | exact HB.out))); (case aF => exact (fun k_ hk => ⟨Kd.fresh' (Kd.R_lt (by (with_reducible repeat (first | apply Kd.R_alloc | apply Kd.R_drewN | apply Kd.R_drew)); exact HO_6.out)) k_ hk, Kd.fresh' (Kd.R_lt (by (with_reducible repeat (first | apply Kd.R_alloc | apply Kd.R_drewN | apply Kd.R_drew)); exact HO_438001.out)) k_ hk⟩)); (case aO => exact (by (with_reducible repeat (first | apply Kd.R_alloc | apply Kd.R_drewN | apply Kd.R_drew)); exact HO456.out)); (case aS => exact (below_size (by repeat (first | (with_reducible first | exact HB.out | apply below_alloc | apply pw_below_drewN | apply below_drew1 | refine below_set ?_ GE437.out) | exact HB.out)))); (case aL => have := LMc21.out; omega); intro v458 w42 ho hb hg hat; rw [← Ny457.out] at ho; have n0_ := Aside0.mk (Kd.R_after (ok := (fun k_ => some k_ ≠ (.slice Ao12 t440.length co12 : Value).ownBlock)) (by (with_reducible repeat (first | apply Kd.R_alloc | apply Kd.R_drewN | apply Kd.R_drew)); exact HO_6.out) hg hat); have n1_ := Aside0.mk (Kd.R_after (ok := (fun k_ => some k_ ≠ (.slice Ao39 t443.length co39 : Value).ownBlock)) (by (with_reducible repeat (first | apply Kd.R_alloc | apply Kd.R_drewN | apply Kd.R_drew)); exact HO_438001.out) hg hat); have n2_ := Aside0.mk (blk_grown (g := gb437) (o := .cells #[.int .i64 t439, .slice Ao12 t440.length co12] 24 (0, 0)) (by (with_reducible repeat (first | refine blk_drewN ?_ _ | refine blk_drew ?_ | refine blk_alloc ?_ _)); exact BK437.out) hg (Kd.R_ne HO456.out BK437.out (by decide))); have n3_ := Aside0.mk (hb); have n4_ := Aside0.mk ((show Kd.C (Kd.int .u8) w42 Ao39 y450.length y450 from by rw [Ny450.out]; exact Kd.C_take (m := 14) ((Kd.R_reads' (Kd.R_after (ok := (fun k_ => some k_ ≠ (.slice Ao12 t440.length co12 : Value).ownBlock)) (by (with_reducible repeat (first | apply Kd.R_alloc | apply Kd.R_drewN | apply Kd.R_drew)); exact HO_6.out) hg hat)).2.2) KL38.out)); have n5_ := Aside0.mk (ho); clear HO_6; clear HO_438001; clear BK437; clear HB; clear HR453; clear HO456; have HO_6 := n0_; have HO_438001 := n1_; have BK437 := n2_; have HB := n3_; have HR453 := n4_; have HO459 := n5_; clear n0_ n1_ n2_ n3_ n4_ n5_; clear ho hb hg hat; obtain ⟨Ao43, co43, eo43⟩ := Kd.R_slice HO459.out; subst eo43))
                                  have n0_ := Aside0.mk (Kd.R_drew HO_6.out)
                                  have n1_ := Aside0.mk (Kd.R_drew HO_438001.out)
                                  have n2_ := Aside0.mk (Kd.R_drew HO459.out)
                                  have n3_ := Aside0.mk (blk_drew BK437.out)
                                  have n4_ := Aside0.mk (Kd.C_drew HR453.out)
                                  have n5_ := Aside0.mk (below_drew1 HB.out)
                                  clear HO_6
                                  clear HO_438001
                                  clear HO459
                                  clear BK437
                                  clear HR453
                                  clear HB
                                  have HO_6 := n0_
                                  have HO_438001 := n1_
                                  have HO459 := n2_
                                  have BK437 := n3_
                                  have HR453 := n4_
                                  have HB := n5_
                                  clear n0_ n1_ n2_ n3_ n4_ n5_
                                  have p460 : 0 ≤ (0 : Int) := (by omega)
                                  have q460 : 0 < (t443.length : Int) := of_decide_eq_true (by first | (with_reducible assumption) | assumption)
                                  obtain ⟨ad460, e460, hx460_0⟩ := Kd.at_int (Kd.R_reads' HO_6.out).2.2 0 p460 q460
                                  cases e460
                                  have qi460 : (0 < t443.length) = True := eq_true (by omega)
                                  (try rw [show ((0 : Int)).toNat = 0 from rfl] at hx460_0)
                                  (try rw [Addr.add_zero'] at hx460_0)
                                  replace p460 := eq_true p460
                                  replace q460 := eq_true q460
                                  have p461 : 0 ≤ (1 : Int) := (by omega)
                                  have q461 : 1 < (t443.length : Int) := of_decide_eq_true (by first | (with_reducible assumption) | assumption)
                                  obtain ⟨ad461, e461, hx461_0⟩ := Kd.at_int (Kd.R_reads' HO_6.out).2.2 1 p461 q461
                                  obtain rfl : ad460 = ad461 := (by injection e461)
                                  (try simp only [show (1 : Int).toNat = 1 from rfl, Nat.reduceMul, Nat.reduceEqDiff, Go.Addr.add, ↓reduceIte] at hx461_0)
                                  have qi461 : (1 < t443.length) = True := eq_true (by omega)
                                  (try rw [show ((1 : Int)).toNat = 1 from rfl] at hx461_0)
                                  replace p461 := eq_true p461
                                  replace q461 := eq_true q461
                                  have q46 : (18 : Int) ≤ ((t443.length : Int) : Int) := of_decide_eq_true (by first | (with_reducible assumption) | assumption)
                                  obtain ⟨i046, hi046, _, hsz46, _⟩ := info_parts info5
                                  have hroom46 : t443.length ≤ co39 := (Kd.R_reads' HO_6.out).2.1
                                  have hC46 : Kd.C (Kd.int .u8) _ (some ad460) t443.length t443 := (Kd.R_reads' HO_6.out).2.2
                                  have hcut46 := cut_from (P := Try.prog) 22 5 .i64 Try.underlying22 hi046 1 hsz46 (some ad460) t443.length co39 18 (by omega) q46
                                  have hr46 := Kd.C_drop (m := (18 : Int).toNat) (c := co39) hC46 (by omega) hroom46
                                  obtain ⟨A46, hA46⟩ : ∃ A1, A1 = (if co39 = (18 : Int).toNat then (some ad460) else ((some ad460) : Option Addr).map (·.add ((18 : Int).toNat * 1))) := ⟨_, rfl⟩
                                  obtain ⟨c46, hc46⟩ : ∃ c1, c1 = co39 - (18 : Int).toNat := ⟨_, rfl⟩
                                  have hy46 : y466.length = t443.length - (18 : Int).toNat := (by rw [Ny466.out, List.length_drop] <;> omega)
                                  rw [show (t443).drop (18 : Int).toNat = y466 from Ny466.out.symm] at hr46
                                  replace hr46 : Kd.C (Kd.int .u8) _ A46 y466.length y466 := (by rw [hA46]; exact hr46)
                                  rw [← hy46, ← hA46, ← hc46] at hcut46
                                  have HR469 := Aside0.mk hr46
                                  have HC469 := Aside0.mk (show y466.length ≤ c46 from by rw [hy46, hc46]; exact Nat.sub_le_sub_right hroom46 _)
                                  clear hr46 hC46 hroom46 hi046 hsz46 hc46
                                  have KY46 := Aside0.mk hy46
                                  have KA46 := Aside0.mk hA46
                                  clear hy46 hA46
                                  have KL46 := Aside0.mk (show 18 ≤ t443.length from by omega)
                                  replace q46 := eq_true q46
                                  have HCV_ := Aside0.mk (fun (W_ : World) (h_ : Kd.C (Kd.int .u8) W_ (some ad460) t443.length t443) => Kd.C_string (P := Try.prog) (w := W_) (A := A46) (c := c46) (xs := y466) Try.underlying22 Try.underlying5 Try.underlying9 (by have hr_ := Kd.C_drop (m := (18 : Int).toNat) (c := co39) h_ (by have := KL46.out; omega) (by have := (Kd.R_reads' HO_6.out).2.1; omega); rw [show (t443).drop (18 : Int).toNat = y466 from Ny466.out.symm] at hr_; rw [KA46.out]; exact hr_))
                                  refine start_ (n := 46) (S := fun w' => w'.cell? ⟨gb437, 0, none⟩ = some (.int .i64 t439) ∧ w'.cell? ⟨gb437, 1, none⟩ = some (.slice Ao12 t440.length co12) ∧ w'.cell? ad460 = some (.int .u8 (rd t443 0)) ∧ w'.cell? ⟨ad460.block, ad460.off + 1, none⟩ = some (.int .u8 (rd t443 1)) ∧ (convert 22 9 (.slice A46 y466.length c46)).run Try.prog w' = .ok (.string (strOfNums y466)) w' ∧ (convert 22 9 (.slice Ao12 t440.length co12)).run Try.prog w' = .ok (.string (strOfNums t440)) w') (ds := []) #[false, false, false, false, false, false, false, false, false, false, false, false, false, false, false, false, false, false, false, false, false, false, false, false, false, false, false, false, false, false, false, false, false, false, false, false, false, false, false, false, false, false, false, false, false, false] (by kernel_rfl) rfl rfl ⟨(blk_cell BK437.out 0).trans rfl, (blk_cell BK437.out 1).trans rfl, hx460_0, hx461_0, HCV_.out _ (by first | exact (Kd.R_reads' HO_6.out).2.2 | exact Kd.C_drew (Kd.R_reads' HO_6.out).2.2), own_string (P := Try.prog) Try.underlying22 Try.underlying5 Try.underlying9 (Kd.own_of_R HO_438001.out)⟩ (fun hHeld => ?_); refine with_tabW phaetonlaw24_ImageFields.tab8 phaetonlaw24_ImageFields.bits8 (fun HT_ HW_ => ?_)
                                  generalize w42.drew = w44 at HO_6 HO_438001 HO459 BK437 HR453 HB hx460_0 hx461_0 hHeld ⊢
                                  refine pure_ (i := 0) (N := some 38) (v := ?_) (a' := ?_) #[true, false, false, false, false, false, false, false, false, false, false, false, false, false, false, false, false, false, false, false, false, false, false, false, false, false, false, false, false, false, false, false, false, false, false, false, false, false, false, false, false, false, false, false, false, false] rfl rfl (any_of HT_.out (by kernel_rfl)) (fun _ _ _ h => h) (Or.inl ⟨by rfl, ?_⟩) ?_ ?_
                                  rotate_left
                                  · intro w'
                                    go_simp
                                    with_reducible rfl
                                  rotate_left
                                  · simp only [Act.put, List.setIfInBounds_toArray, List.set_cons_zero, List.set_cons_succ, i64_w, i32_w]
                                    rfl
                                  refine pure_ (i := 1) (N := some 39) (v := ?_) (a' := ?_) #[true, true, false, false, false, false, false, false, false, false, false, false, false, false, false, false, false, false, false, false, false, false, false, false, false, false, false, false, false, false, false, false, false, false, false, false, false, false, false, false, false, false, false, false, false, false] rfl rfl (any_of HT_.out (by kernel_rfl)) (fun _ _ _ h => h) (Or.inl ⟨by rfl, ?_⟩) ?_ ?_
                                  rotate_left
                                  · intro w'
                                    go_simp
                                    with_reducible rfl
                                  rotate_left
                                  · simp only [Act.put, List.setIfInBounds_toArray, List.set_cons_zero, List.set_cons_succ, i64_w, i32_w]
                                    rfl
                                  refine take_ (i := 2) (N := some 40) (v := ?_) (a' := ?_) #[true, true, true, false, false, false, false, false, false, false, false, false, false, false, false, false, false, false, false, false, false, false, false, false, false, false, false, false, false, false, false, false, false, false, false, false, false, false, false, false, false, false, false, false, false, false] rfl rfl (take_ofW HT_.out HW_.out (by kernel_rfl)) (fun _ _ _ h => h) (Or.inl ⟨by rfl, ?_⟩) hHeld ?_ ?_
                                  rotate_left
                                  · rintro w' ⟨s0, s1, s2, s3, s4, s5⟩
                                    go_simp
                                    with_reducible rfl
                                  rotate_left
                                  · simp only [Act.put, List.setIfInBounds_toArray, List.set_cons_zero, List.set_cons_succ, i64_w, i32_w]
                                    rfl
                                  refine pure_ (i := 3) (N := some 41) (v := ?_) (a' := ?_) #[true, true, true, true, false, false, false, false, false, false, false, false, false, false, false, false, false, false, false, false, false, false, false, false, false, false, false, false, false, false, false, false, false, false, false, false, false, false, false, false, false, false, false, false, false, false] rfl rfl (any_of HT_.out (by kernel_rfl)) (fun _ _ _ h => h) (Or.inl ⟨by rfl, ?_⟩) ?_ ?_
                                  rotate_left
                                  · intro w'
                                    go_simp
                                    with_reducible rfl
                                  rotate_left
                                  · simp only [Act.put, List.setIfInBounds_toArray, List.set_cons_zero, List.set_cons_succ, i64_w, i32_w]
                                    rfl
                                  refine pure_ (i := 4) (N := some 42) (v := ?_) (a' := ?_) #[true, true, true, true, true, false, false, false, false, false, false, false, false, false, false, false, false, false, false, false, false, false, false, false, false, false, false, false, false, false, false, false, false, false, false, false, false, false, false, false, false, false, false, false, false, false] rfl rfl (any_of HT_.out (by kernel_rfl)) (fun _ _ _ h => h) (Or.inl ⟨by rfl, ?_⟩) ?_ ?_
                                  rotate_left
                                  · intro w'
                                    go_simp
                                    with_reducible rfl
                                  rotate_left
                                  · simp only [Act.put, List.setIfInBounds_toArray, List.set_cons_zero, List.set_cons_succ, i64_w, i32_w]
                                    rfl
                                  refine pure_ (i := 5) (N := some 43) (v := ?_) (a' := ?_) #[true, true, true, true, true, true, false, false, false, false, false, false, false, false, false, false, false, false, false, false, false, false, false, false, false, false, false, false, false, false, false, false, false, false, false, false, false, false, false, false, false, false, false, false, false, false] rfl rfl (any_of HT_.out (by kernel_rfl)) (fun _ _ _ h => h) (Or.inl ⟨by rfl, ?_⟩) ?_ ?_
                                  rotate_left
                                  · intro w'
                                    go_simp
                                    with_reducible rfl
                                  rotate_left
                                  · simp only [Act.put, List.setIfInBounds_toArray, List.set_cons_zero, List.set_cons_succ, i64_w, i32_w]
                                    rfl
                                  refine pure_ (i := 6) (N := some 44) (v := ?_) (a' := ?_) #[true, true, true, true, true, true, true, false, false, false, false, false, false, false, false, false, false, false, false, false, false, false, false, false, false, false, false, false, false, false, false, false, false, false, false, false, false, false, false, false, false, false, false, false, false, false] rfl rfl (any_of HT_.out (by kernel_rfl)) (fun _ _ _ h => h) (Or.inl ⟨by rfl, ?_⟩) ?_ ?_
                                  rotate_left
                                  · intro w'
                                    go_simp
                                    with_reducible rfl
                                  rotate_left
                                  · simp only [Act.put, List.setIfInBounds_toArray, List.set_cons_zero, List.set_cons_succ, i64_w, i32_w]
                                    rfl
                                  refine take_ (i := 7) (N := some 45) (v := ?_) (a' := ?_) #[true, true, true, true, true, true, true, true, false, false, false, false, false, false, false, false, false, false, false, false, false, false, false, false, false, false, false, false, false, false, false, false, false, false, false, false, false, false, false, false, false, false, false, false, false, false] rfl rfl (take_ofW HT_.out HW_.out (by kernel_rfl)) (fun _ _ _ h => h) (Or.inl ⟨by rfl, ?_⟩) hHeld ?_ ?_
                                  rotate_left
                                  · rintro w' ⟨s0, s1, s2, s3, s4, s5⟩
                                    go_simp
                                    with_reducible rfl
                                  rotate_left
                                  · simp only [Act.put, List.setIfInBounds_toArray, List.set_cons_zero, List.set_cons_succ, i64_w, i32_w]
                                    rfl
                                  refine pure_ (i := 8) (N := some 46) (v := ?_) (a' := ?_) #[true, true, true, true, true, true, true, true, true, false, false, false, false, false, false, false, false, false, false, false, false, false, false, false, false, false, false, false, false, false, false, false, false, false, false, false, false, false, false, false, false, false, false, false, false, false] rfl rfl (any_of HT_.out (by kernel_rfl)) (fun _ _ _ h => h) (Or.inl ⟨by rfl, ?_⟩) ?_ ?_
                                  rotate_left
                                  · intro w'
                                    go_simp
                                    with_reducible rfl
                                  rotate_left
                                  · simp only [Act.put, List.setIfInBounds_toArray, List.set_cons_zero, List.set_cons_succ, i64_w, i32_w]
                                    rfl
                                  refine pure_ (i := 9) (N := some 47) (v := ?_) (a' := ?_) #[true, true, true, true, true, true, true, true, true, true, false, false, false, false, false, false, false, false, false, false, false, false, false, false, false, false, false, false, false, false, false, false, false, false, false, false, false, false, false, false, false, false, false, false, false, false] rfl rfl (any_of HT_.out (by kernel_rfl)) (fun _ _ _ h => h) (Or.inl ⟨by rfl, ?_⟩) ?_ ?_
                                  rotate_left
                                  · intro w'
                                    go_simp
                                    with_reducible rfl
                                  rotate_left
                                  · simp only [Act.put, List.setIfInBounds_toArray, List.set_cons_zero, List.set_cons_succ, i64_w, i32_w]
                                    rfl
                                  refine pure_ (i := 10) (N := some 48) (v := ?_) (a' := ?_) #[true, true, true, true, true, true, true, true, true, true, true, false, false, false, false, false, false, false, false, false, false, false, false, false, false, false, false, false, false, false, false, false, false, false, false, false, false, false, false, false, false, false, false, false, false, false] rfl rfl (any_of HT_.out (by kernel_rfl)) (fun _ _ _ h => h) (Or.inl ⟨by rfl, ?_⟩) ?_ ?_
                                  rotate_left
                                  · intro w'
                                    go_simp
                                    with_reducible rfl
                                  rotate_left
                                  · simp only [Act.put, List.setIfInBounds_toArray, List.set_cons_zero, List.set_cons_succ, i64_w, i32_w]
                                    rfl
                                  refine pure_ (i := 11) (N := some 49) (v := ?_) (a' := ?_) #[true, true, true, true, true, true, true, true, true, true, true, true, false, false, false, false, false, false, false, false, false, false, false, false, false, false, false, false, false, false, false, false, false, false, false, false, false, false, false, false, false, false, false, false, false, false] rfl rfl (any_of HT_.out (by kernel_rfl)) (fun _ _ _ h => h) (Or.inl ⟨by rfl, ?_⟩) ?_ ?_
                                  rotate_left
                                  · intro w'
                                    go_simp
                                    with_reducible rfl
                                  rotate_left
                                  · simp only [Act.put, List.setIfInBounds_toArray, List.set_cons_zero, List.set_cons_succ, i64_w, i32_w]
                                    rfl
                                  refine pure_ (i := 13) (N := some 51) (v := ?_) (a' := ?_) #[true, true, true, true, true, true, true, true, true, true, true, true, false, true, false, false, false, false, false, false, false, false, false, false, false, false, false, false, false, false, false, false, false, false, false, false, false, false, false, false, false, false, false, false, false, false] rfl rfl (any_of HT_.out (by kernel_rfl)) (fun _ _ _ h => h) (Or.inl ⟨by rfl, ?_⟩) ?_ ?_
                                  rotate_left
                                  · intro w'
                                    go_simp
                                    with_reducible rfl
                                  rotate_left
                                  · simp only [Act.put, List.setIfInBounds_toArray, List.set_cons_zero, List.set_cons_succ, i64_w, i32_w]
                                    rfl
                                  refine take_ (i := 14) (N := some 52) (v := ?_) (a' := ?_) #[true, true, true, true, true, true, true, true, true, true, true, true, false, true, true, false, false, false, false, false, false, false, false, false, false, false, false, false, false, false, false, false, false, false, false, false, false, false, false, false, false, false, false, false, false, false] rfl rfl (take_ofW HT_.out HW_.out (by kernel_rfl)) (fun _ _ _ h => h) (Or.inl ⟨by rfl, ?_⟩) hHeld ?_ ?_
                                  rotate_left
                                  · rintro w' ⟨s0, s1, s2, s3, s4, s5⟩
                                    go_simp
                                    with_reducible rfl
                                  rotate_left
                                  · simp only [Act.put, List.setIfInBounds_toArray, List.set_cons_zero, List.set_cons_succ, i64_w, i32_w]
                                    rfl
                                  refine one_ (i := 12) (N := some 50) #[true, true, true, true, true, true, true, true, true, true, true, true, true, true, true, false, false, false, false, false, false, false, false, false, false, false, false, false, false, false, false, false, false, false, false, false, false, false, false, false, false, false, false, false, false, false] rfl rfl (one_of HT_.out (by kernel_rfl)) (by decide) (fun K hK => ?_)
                                  refine goes_ Try.func26 (by kernel_rfl) rfl #[.slice (some ad460) t443.length co39, .int .i64 2] (by rfl) rfl rfl (by (try simp only [List.map_toArray, List.map_cons, List.map_nil]); first | done | rfl | (simp only [List.length_drop, List.length_take]; rfl)) ?_
                                  with_reducible refine (phaetonref24_Number.calls _ _ t443 2 t462 _ ?side1 ?side2 A26.out).mono ?_
                                  (case side1 => repeat (first | exact (Kd.R_reads' HO_6.out).2.2 | (with_reducible refine Kd.C_alloc ?_ _) | (with_reducible refine Kd.C_drewN ?_ _) | (with_reducible refine Kd.C_drew ?_)))
                                  (case side2 => exact (Kd.R_reads' HO_6.out).2.1)
                                  rintro e w' ⟨rfl, ⟨nd, rfl⟩⟩
                                  refine ⟨_, rfl, ?_⟩
                                  refine hK.out _ _ ⟨(blk_cell BK437.out 0).trans rfl, (blk_cell BK437.out 1).trans rfl, hHeld.2.2.1, hHeld.2.2.2.1, HCV_.out _ (by first | exact (Kd.R_reads' HO_6.out).2.2 | exact Kd.C_drew (Kd.R_reads' HO_6.out).2.2), own_string (P := Try.prog) Try.underlying22 Try.underlying5 Try.underlying9 (Kd.own_of_R HO_438001.out)⟩ (fun hHeld => ?_)
                                  clear hK K
                                  refine norm_ (a' := ?_) ?_ ?_
                                  rotate_left
                                  · show Act.put _ (some 50) _ = _
                                    simp only [Act.put, List.setIfInBounds_toArray, List.set_cons_zero, List.set_cons_succ, i64_w, i32_w]
                                    rfl
                                  refine pure_ (i := 15) (N := some 53) (v := ?_) (a' := ?_) #[true, true, true, true, true, true, true, true, true, true, true, true, true, true, true, true, false, false, false, false, false, false, false, false, false, false, false, false, false, false, false, false, false, false, false, false, false, false, false, false, false, false, false, false, false, false] rfl rfl (any_of HT_.out (by kernel_rfl)) (fun _ _ _ h => h) (Or.inl ⟨by rfl, ?_⟩) ?_ ?_
                                  rotate_left
                                  · intro w'
                                    go_simp
                                    with_reducible rfl
                                  rotate_left
                                  · simp only [Act.put, List.setIfInBounds_toArray, List.set_cons_zero, List.set_cons_succ, i64_w, i32_w]
                                    rfl
                                  refine pure_ (i := 16) (N := some 54) (v := ?_) (a' := ?_) #[true, true, true, true, true, true, true, true, true, true, true, true, true, true, true, true, true, false, false, false, false, false, false, false, false, false, false, false, false, false, false, false, false, false, false, false, false, false, false, false, false, false, false, false, false, false] rfl rfl (any_of HT_.out (by kernel_rfl)) (fun _ _ _ h => h) (Or.inl ⟨by rfl, ?_⟩) ?_ ?_
                                  rotate_left
                                  · intro w'
                                    go_simp
                                    with_reducible rfl
                                  rotate_left
                                  · simp only [Act.put, List.setIfInBounds_toArray, List.set_cons_zero, List.set_cons_succ, i64_w, i32_w]
                                    rfl
                                  refine pure_ (i := 17) (N := some 55) (v := ?_) (a' := ?_) #[true, true, true, true, true, true, true, true, true, true, true, true, true, true, true, true, true, true, false, false, false, false, false, false, false, false, false, false, false, false, false, false, false, false, false, false, false, false, false, false, false, false, false, false, false, false] rfl rfl (any_of HT_.out (by kernel_rfl)) (fun _ _ _ h => h) (Or.inl ⟨by rfl, ?_⟩) ?_ ?_
                                  rotate_left
                                  · intro w'
                                    go_simp
                                    with_reducible rfl
                                  rotate_left
                                  · simp only [Act.put, List.setIfInBounds_toArray, List.set_cons_zero, List.set_cons_succ, i64_w, i32_w]
                                    rfl
                                  refine pure_ (i := 18) (N := some 56) (v := ?_) (a' := ?_) #[true, true, true, true, true, true, true, true, true, true, true, true, true, true, true, true, true, true, true, false, false, false, false, false, false, false, false, false, false, false, false, false, false, false, false, false, false, false, false, false, false, false, false, false, false, false] rfl rfl (any_of HT_.out (by kernel_rfl)) (fun _ _ _ h => h) (Or.inl ⟨by rfl, ?_⟩) ?_ ?_
                                  rotate_left
                                  · intro w'
                                    go_simp
                                    with_reducible rfl
                                  rotate_left
                                  · simp only [Act.put, List.setIfInBounds_toArray, List.set_cons_zero, List.set_cons_succ, i64_w, i32_w]
                                    rfl
                                  refine pure_ (i := 20) (N := some 58) (v := ?_) (a' := ?_) #[true, true, true, true, true, true, true, true, true, true, true, true, true, true, true, true, true, true, true, false, true, false, false, false, false, false, false, false, false, false, false, false, false, false, false, false, false, false, false, false, false, false, false, false, false, false] rfl rfl (any_of HT_.out (by kernel_rfl)) (fun _ _ _ h => h) (Or.inl ⟨by rfl, ?_⟩) ?_ ?_
                                  rotate_left
                                  · intro w'
                                    go_simp
                                    with_reducible rfl
                                  rotate_left
                                  · simp only [Act.put, List.setIfInBounds_toArray, List.set_cons_zero, List.set_cons_succ, i64_w, i32_w]
                                    rfl
                                  refine take_ (i := 21) (N := some 59) (v := ?_) (a' := ?_) #[true, true, true, true, true, true, true, true, true, true, true, true, true, true, true, true, true, true, true, false, true, true, false, false, false, false, false, false, false, false, false, false, false, false, false, false, false, false, false, false, false, false, false, false, false, false] rfl rfl (take_ofW HT_.out HW_.out (by kernel_rfl)) (fun _ _ _ h => h) (Or.inl ⟨by rfl, ?_⟩) hHeld ?_ ?_
                                  rotate_left
                                  · rintro w' ⟨s0, s1, s2, s3, s4, s5⟩
                                    go_simp
                                    with_reducible rfl
                                  rotate_left
                                  · simp only [Act.put, List.setIfInBounds_toArray, List.set_cons_zero, List.set_cons_succ, i64_w, i32_w]
                                    rfl
                                  refine pure_ (i := 22) (N := some 60) (v := ?_) (a' := ?_) #[true, true, true, true, true, true, true, true, true, true, true, true, true, true, true, true, true, true, true, false, true, true, true, false, false, false, false, false, false, false, false, false, false, false, false, false, false, false, false, false, false, false, false, false, false, false] rfl rfl (any_of HT_.out (by kernel_rfl)) (fun _ _ _ h => h) (Or.inl ⟨by rfl, ?_⟩) ?_ ?_
                                  rotate_left
                                  · intro w'
                                    go_simp
                                    with_reducible rfl
                                  rotate_left
                                  · simp only [Act.put, List.setIfInBounds_toArray, List.set_cons_zero, List.set_cons_succ, i64_w, i32_w]
                                    rfl
                                  refine one_ (i := 19) (N := some 57) #[true, true, true, true, true, true, true, true, true, true, true, true, true, true, true, true, true, true, true, true, true, true, true, false, false, false, false, false, false, false, false, false, false, false, false, false, false, false, false, false, false, false, false, false, false, false] rfl rfl (one_of HT_.out (by kernel_rfl)) (by decide) (fun K hK => ?_)
                                  refine goes_ Try.func26 (by kernel_rfl) rfl #[.slice (some ad460) t443.length co39, .int .i64 6] (by rfl) rfl rfl (by (try simp only [List.map_toArray, List.map_cons, List.map_nil]); first | done | rfl | (simp only [List.length_drop, List.length_take]; rfl)) ?_
                                  with_reducible refine (phaetonref24_Number.calls _ _ t443 6 t463 _ ?side1 ?side2 A28.out).mono ?_
                                  (case side1 => repeat (first | exact (Kd.R_reads' HO_6.out).2.2 | (with_reducible refine Kd.C_alloc ?_ _) | (with_reducible refine Kd.C_drewN ?_ _) | (with_reducible refine Kd.C_drew ?_)))
                                  (case side2 => exact (Kd.R_reads' HO_6.out).2.1)
                                  rintro e w' ⟨rfl, ⟨nd, rfl⟩⟩
                                  refine ⟨_, rfl, ?_⟩
                                  refine hK.out _ _ ⟨(blk_cell BK437.out 0).trans rfl, (blk_cell BK437.out 1).trans rfl, hHeld.2.2.1, hHeld.2.2.2.1, HCV_.out _ (by first | exact (Kd.R_reads' HO_6.out).2.2 | exact Kd.C_drew (Kd.R_reads' HO_6.out).2.2), own_string (P := Try.prog) Try.underlying22 Try.underlying5 Try.underlying9 (Kd.own_of_R HO_438001.out)⟩ (fun hHeld => ?_)
                                  clear hK K
                                  refine norm_ (a' := ?_) ?_ ?_
                                  rotate_left
                                  · show Act.put _ (some 57) _ = _
                                    simp only [Act.put, List.setIfInBounds_toArray, List.set_cons_zero, List.set_cons_succ, i64_w, i32_w]
                                    rfl
                                  refine pure_ (i := 23) (N := some 61) (v := ?_) (a' := ?_) #[true, true, true, true, true, true, true, true, true, true, true, true, true, true, true, true, true, true, true, true, true, true, true, true, false, false, false, false, false, false, false, false, false, false, false, false, false, false, false, false, false, false, false, false, false, false] rfl rfl (any_of HT_.out (by kernel_rfl)) (fun _ _ _ h => h) (Or.inl ⟨by rfl, ?_⟩) ?_ ?_
                                  rotate_left
                                  · intro w'
                                    go_simp
                                    with_reducible rfl
                                  rotate_left
                                  · simp only [Act.put, List.setIfInBounds_toArray, List.set_cons_zero, List.set_cons_succ, i64_w, i32_w]
                                    rfl
                                  refine pure_ (i := 24) (N := some 62) (v := ?_) (a' := ?_) #[true, true, true, true, true, true, true, true, true, true, true, true, true, true, true, true, true, true, true, true, true, true, true, true, true, false, false, false, false, false, false, false, false, false, false, false, false, false, false, false, false, false, false, false, false, false] rfl rfl (any_of HT_.out (by kernel_rfl)) (fun _ _ _ h => h) (Or.inl ⟨by rfl, ?_⟩) ?_ ?_
                                  rotate_left
                                  · intro w'
                                    go_simp
                                    with_reducible rfl
                                  rotate_left
                                  · simp only [Act.put, List.setIfInBounds_toArray, List.set_cons_zero, List.set_cons_succ, i64_w, i32_w]
                                    rfl
                                  refine pure_ (i := 25) (N := some 63) (v := ?_) (a' := ?_) #[true, true, true, true, true, true, true, true, true, true, true, true, true, true, true, true, true, true, true, true, true, true, true, true, true, true, false, false, false, false, false, false, false, false, false, false, false, false, false, false, false, false, false, false, false, false] rfl rfl (any_of HT_.out (by kernel_rfl)) (fun _ _ _ h => h) (Or.inl ⟨by rfl, ?_⟩) ?_ ?_
                                  rotate_left
                                  · intro w'
                                    go_simp
                                    with_reducible rfl
                                  rotate_left
                                  · simp only [Act.put, List.setIfInBounds_toArray, List.set_cons_zero, List.set_cons_succ, i64_w, i32_w]
                                    rfl
                                  refine pure_ (i := 26) (N := some 64) (v := ?_) (a' := ?_) #[true, true, true, true, true, true, true, true, true, true, true, true, true, true, true, true, true, true, true, true, true, true, true, true, true, true, true, false, false, false, false, false, false, false, false, false, false, false, false, false, false, false, false, false, false, false] rfl rfl (any_of HT_.out (by kernel_rfl)) (fun _ _ _ h => h) (Or.inl ⟨by rfl, ?_⟩) ?_ ?_
                                  rotate_left
                                  · intro w'
                                    go_simp
                                    with_reducible rfl
                                  rotate_left
                                  · simp only [Act.put, List.setIfInBounds_toArray, List.set_cons_zero, List.set_cons_succ, i64_w, i32_w]
                                    rfl
                                  refine pure_ (i := 28) (N := some 66) (v := ?_) (a' := ?_) #[true, true, true, true, true, true, true, true, true, true, true, true, true, true, true, true, true, true, true, true, true, true, true, true, true, true, true, false, true, false, false, false, false, false, false, false, false, false, false, false, false, false, false, false, false, false] rfl rfl (any_of HT_.out (by kernel_rfl)) (fun _ _ _ h => h) (Or.inl ⟨by rfl, ?_⟩) ?_ ?_
                                  rotate_left
                                  · intro w'
                                    go_simp
                                    with_reducible rfl
                                  rotate_left
                                  · simp only [Act.put, List.setIfInBounds_toArray, List.set_cons_zero, List.set_cons_succ, i64_w, i32_w]
                                    rfl
                                  refine pure_ (i := 29) (N := some 67) (v := ?_) (a' := ?_) #[true, true, true, true, true, true, true, true, true, true, true, true, true, true, true, true, true, true, true, true, true, true, true, true, true, true, true, false, true, true, false, false, false, false, false, false, false, false, false, false, false, false, false, false, false, false] rfl rfl (any_of HT_.out (by kernel_rfl)) (fun _ _ _ h => h) (Or.inl ⟨by rfl, ?_⟩) ?_ ?_
                                  rotate_left
                                  · intro w'
                                    go_simp
                                    with_reducible rfl
                                  rotate_left
                                  · simp only [Act.put, List.setIfInBounds_toArray, List.set_cons_zero, List.set_cons_succ, i64_w, i32_w]
                                    rfl
                                  refine one_ (i := 27) (N := some 65) #[true, true, true, true, true, true, true, true, true, true, true, true, true, true, true, true, true, true, true, true, true, true, true, true, true, true, true, true, true, true, false, false, false, false, false, false, false, false, false, false, false, false, false, false, false, false] rfl rfl (one_of HT_.out (by kernel_rfl)) (by decide) (fun K hK => ?_)
                                  refine goes_ Try.func26 (by kernel_rfl) rfl #[.slice (some ad460) t443.length co39, .int .i64 14] (by rfl) rfl rfl (by (try simp only [List.map_toArray, List.map_cons, List.map_nil]); first | done | rfl | (simp only [List.length_drop, List.length_take]; rfl)) ?_
                                  with_reducible refine (phaetonref24_Number.calls _ _ t443 14 t464 _ ?side1 ?side2 A30.out).mono ?_
                                  (case side1 => repeat (first | exact (Kd.R_reads' HO_6.out).2.2 | (with_reducible refine Kd.C_alloc ?_ _) | (with_reducible refine Kd.C_drewN ?_ _) | (with_reducible refine Kd.C_drew ?_)))
                                  (case side2 => exact (Kd.R_reads' HO_6.out).2.1)
                                  rintro e w' ⟨rfl, ⟨nd, rfl⟩⟩
                                  refine ⟨_, rfl, ?_⟩
                                  refine hK.out _ _ ⟨(blk_cell BK437.out 0).trans rfl, (blk_cell BK437.out 1).trans rfl, hHeld.2.2.1, hHeld.2.2.2.1, HCV_.out _ (by first | exact (Kd.R_reads' HO_6.out).2.2 | exact Kd.C_drew (Kd.R_reads' HO_6.out).2.2), own_string (P := Try.prog) Try.underlying22 Try.underlying5 Try.underlying9 (Kd.own_of_R HO_438001.out)⟩ (fun hHeld => ?_)
                                  clear hK K
                                  refine norm_ (a' := ?_) ?_ ?_
                                  rotate_left
                                  · show Act.put _ (some 65) _ = _
                                    simp only [Act.put, List.setIfInBounds_toArray, List.set_cons_zero, List.set_cons_succ, i64_w, i32_w]
                                    rfl
                                  refine one_ (i := 30) (N := some 68) #[true, true, true, true, true, true, true, true, true, true, true, true, true, true, true, true, true, true, true, true, true, true, true, true, true, true, true, true, true, true, true, false, false, false, false, false, false, false, false, false, false, false, false, false, false, false] rfl rfl (one_of HT_.out (by kernel_rfl)) (by decide) (fun K hK => ?_)
                                  refine goes_ Try.func20 (by kernel_rfl) rfl #[.slice Ao43 y457.length co43, .int .i64 a1] (by rfl) rfl rfl (by (try simp only [List.map_toArray, List.map_cons, List.map_nil]); first | done | rfl | (simp only [List.length_drop, List.length_take]; rfl)) ?_
                                  with_reducible refine (image_Seal.calls kj5 _ _ y457 a1 t465 _ ?side1 ?side2 A31.out).mono ?_
                                  (case side1 => repeat (first | exact (Kd.R_reads' HO459.out).2.2 | (with_reducible refine Kd.C_alloc ?_ _) | (with_reducible refine Kd.C_drewN ?_ _) | (with_reducible refine Kd.C_drew ?_)))
                                  (case side2 => exact (Kd.R_reads' HO459.out).2.1)
                                  rintro e w45 ⟨rfl, hb⟩
                                  have HS2_ := (hb.cell (World.block_lt_of_cell? _ _ (hHeld.2.2.1))).trans (hHeld.2.2.1)
                                  have HS3_ := (hb.cell (World.block_lt_of_cell? _ _ (hHeld.2.2.2.1))).trans (hHeld.2.2.2.1)
                                  refine ⟨_, rfl, ?_⟩
                                  have n0_ := Aside0.mk (Kd.R_below (by (with_reducible repeat (first | apply Kd.R_alloc | apply Kd.R_drewN | apply Kd.R_drew)); exact HO_6.out) hb)
                                  have n1_ := Aside0.mk (Kd.R_below (by (with_reducible repeat (first | apply Kd.R_alloc | apply Kd.R_drewN | apply Kd.R_drew)); exact HO_438001.out) hb)
                                  have n2_ := Aside0.mk (Kd.R_below (by (with_reducible repeat (first | apply Kd.R_alloc | apply Kd.R_drewN | apply Kd.R_drew)); exact HO459.out) hb)
                                  have n3_ := Aside0.mk (blk_below (g := gb437) (o := .cells #[.int .i64 t439, .slice Ao12 t440.length co12] 24 (0, 0)) (by (with_reducible repeat (first | refine blk_drewN ?_ _ | refine blk_drew ?_ | refine blk_alloc ?_ _)); exact BK437.out) hb)
                                  have n4_ := Aside0.mk (HW.C_carry HR453.out hb (by repeat (first | (with_reducible exact HR453.out) | (with_reducible refine Kd.C_alloc ?_ _) | (with_reducible refine Kd.C_drewN ?_ _) | (with_reducible refine Kd.C_drew ?_) | exact HR453.out)))
                                  have n5_ := Aside0.mk (below_step (by repeat (first | (with_reducible first | exact HB.out | apply below_alloc | apply pw_below_drewN | apply below_drew1 | refine below_set ?_ GE437.out) | exact HB.out)) hb)
                                  clear HO_6
                                  clear HO_438001
                                  clear HO459
                                  clear BK437
                                  clear HR453
                                  clear HB
                                  have HO_6 := n0_
                                  have HO_438001 := n1_
                                  have HO459 := n2_
                                  have BK437 := n3_
                                  have HR453 := n4_
                                  have HB := n5_
                                  clear n0_ n1_ n2_ n3_ n4_ n5_
                                  (try clear hb)
                                  (try clear hb2)
                                  (try clear hk)
                                  (try clear hi)
                                  refine hK.out _ _ ⟨(blk_cell BK437.out 0).trans rfl, (blk_cell BK437.out 1).trans rfl, HS2_, HS3_, HCV_.out _ (by first | exact (Kd.R_reads' HO_6.out).2.2 | exact Kd.C_drew (Kd.R_reads' HO_6.out).2.2), own_string (P := Try.prog) Try.underlying22 Try.underlying5 Try.underlying9 (Kd.own_of_R HO_438001.out)⟩ (fun hHeld => ?_)
                                  clear hK K
                                  refine norm_ (a' := ?_) ?_ ?_
                                  rotate_left
                                  · show Act.put _ (some 68) _ = _
                                    simp only [Act.put, List.setIfInBounds_toArray, List.set_cons_zero, List.set_cons_succ, i64_w, i32_w]
                                    rfl
                                  refine pure_ (i := 31) (N := some 69) (v := ?_) (a' := ?_) #[true, true, true, true, true, true, true, true, true, true, true, true, true, true, true, true, true, true, true, true, true, true, true, true, true, true, true, true, true, true, true, true, false, false, false, false, false, false, false, false, false, false, false, false, false, false] rfl rfl (any_of HT_.out (by kernel_rfl)) (fun _ _ _ h => h) (Or.inl ⟨by rfl, ?_⟩) ?_ ?_
                                  rotate_left
                                  · intro w'
                                    go_simp
                                    with_reducible rfl
                                  rotate_left
                                  · simp only [Act.put, List.setIfInBounds_toArray, List.set_cons_zero, List.set_cons_succ, i64_w, i32_w]
                                    rfl
                                  refine pure_ (i := 32) (N := some 70) (v := ?_) (a' := ?_) #[true, true, true, true, true, true, true, true, true, true, true, true, true, true, true, true, true, true, true, true, true, true, true, true, true, true, true, true, true, true, true, true, true, false, false, false, false, false, false, false, false, false, false, false, false, false] rfl rfl (any_of HT_.out (by kernel_rfl)) (fun _ _ _ h => h) (Or.inl ⟨by rfl, ?_⟩) ?_ ?_
                                  rotate_left
                                  · intro w'
                                    go_simp
                                    with_reducible rfl
                                  rotate_left
                                  · simp only [Act.put, List.setIfInBounds_toArray, List.set_cons_zero, List.set_cons_succ, i64_w, i32_w]
                                    rfl
                                  refine pure_ (i := 33) (N := some 71) (v := ?_) (a' := ?_) #[true, true, true, true, true, true, true, true, true, true, true, true, true, true, true, true, true, true, true, true, true, true, true, true, true, true, true, true, true, true, true, true, true, true, false, false, false, false, false, false, false, false, false, false, false, false] rfl rfl (any_of HT_.out (by kernel_rfl)) (fun _ _ _ h => h) (Or.inl ⟨by rfl, ?_⟩) ?_ ?_
                                  rotate_left
                                  · intro w'
                                    go_simp
                                    with_reducible rfl
                                  rotate_left
                                  · simp only [Act.put, List.setIfInBounds_toArray, List.set_cons_zero, List.set_cons_succ, i64_w, i32_w]
                                    rfl
                                  refine pure_ (i := 34) (N := some 72) (v := ?_) (a' := ?_) #[true, true, true, true, true, true, true, true, true, true, true, true, true, true, true, true, true, true, true, true, true, true, true, true, true, true, true, true, true, true, true, true, true, true, true, false, false, false, false, false, false, false, false, false, false, false] rfl rfl (any_of HT_.out (by kernel_rfl)) (fun _ _ _ h => h) (Or.inl ⟨by rfl, ?_⟩) ?_ ?_
                                  rotate_left
                                  · intro w'
                                    go_simp
                                    with_reducible rfl
                                  rotate_left
                                  · simp only [Act.put, List.setIfInBounds_toArray, List.set_cons_zero, List.set_cons_succ, i64_w, i32_w]
                                    rfl
                                  refine pure_ (i := 35) (N := some 73) (v := ?_) (a' := ?_) #[true, true, true, true, true, true, true, true, true, true, true, true, true, true, true, true, true, true, true, true, true, true, true, true, true, true, true, true, true, true, true, true, true, true, true, true, false, false, false, false, false, false, false, false, false, false] rfl rfl (any_of HT_.out (by kernel_rfl)) (fun _ _ _ h => h) (Or.inl ⟨by rfl, ?_⟩) ?_ ?_
                                  rotate_left
                                  · intro w'
                                    go_simp
                                    with_reducible rfl
                                  rotate_left
                                  · simp only [Act.put, List.setIfInBounds_toArray, List.set_cons_zero, List.set_cons_succ, i64_w, i32_w]
                                    rfl
                                  refine take_ (i := 36) (N := some 74) (v := ?_) (a' := ?_) #[true, true, true, true, true, true, true, true, true, true, true, true, true, true, true, true, true, true, true, true, true, true, true, true, true, true, true, true, true, true, true, true, true, true, true, true, true, false, false, false, false, false, false, false, false, false] rfl rfl (take_ofW HT_.out HW_.out (by kernel_rfl)) (fun _ _ _ h => h) (Or.inl ⟨by rfl, ?_⟩) hHeld ?_ ?_
                                  rotate_left
                                  · rintro w' ⟨s0, s1, s2, s3, s4, s5⟩
                                    go_simp
                                    with_reducible rfl
                                  rotate_left
                                  · simp only [Act.put, List.setIfInBounds_toArray, List.set_cons_zero, List.set_cons_succ, i64_w, i32_w]
                                    rfl
                                  refine pure_ (i := 37) (N := some 75) (v := ?_) (a' := ?_) #[true, true, true, true, true, true, true, true, true, true, true, true, true, true, true, true, true, true, true, true, true, true, true, true, true, true, true, true, true, true, true, true, true, true, true, true, true, true, false, false, false, false, false, false, false, false] rfl rfl (any_of HT_.out (by kernel_rfl)) (fun _ _ _ h => h) (Or.inl ⟨by rfl, ?_⟩) ?_ ?_
                                  rotate_left
                                  · intro w'
                                    go_simp
                                    with_reducible rfl
                                  rotate_left
                                  · simp only [Act.put, List.setIfInBounds_toArray, List.set_cons_zero, List.set_cons_succ, i64_w, i32_w]
                                    rfl
                                  refine take_ (i := 38) (N := some 76) (v := ?_) (a' := ?_) #[true, true, true, true, true, true, true, true, true, true, true, true, true, true, true, true, true, true, true, true, true, true, true, true, true, true, true, true, true, true, true, true, true, true, true, true, true, true, true, false, false, false, false, false, false, false] rfl rfl (take_ofW HT_.out HW_.out (by kernel_rfl)) (fun _ _ _ h => h) (Or.inl ⟨by rfl, ?_⟩) hHeld ?_ ?_
                                  rotate_left
                                  · rintro w' ⟨s0, s1, s2, s3, s4, s5⟩
                                    go_simp
                                    with_reducible rfl
                                  rotate_left
                                  · simp only [Act.put, List.setIfInBounds_toArray, List.set_cons_zero, List.set_cons_succ, i64_w, i32_w]
                                    rfl
                                  refine take_ (i := 39) (N := some 77) (v := ?_) (a' := ?_) #[true, true, true, true, true, true, true, true, true, true, true, true, true, true, true, true, true, true, true, true, true, true, true, true, true, true, true, true, true, true, true, true, true, true, true, true, true, true, true, true, false, false, false, false, false, false] rfl rfl (take_ofW HT_.out HW_.out (by kernel_rfl)) (fun _ _ _ h => h) (Or.inl ⟨by rfl, ?_⟩) hHeld ?_ ?_
                                  rotate_left
                                  · rintro w' ⟨s0, s1, s2, s3, s4, s5⟩
                                    go_simp
                                    with_reducible rfl
                                  rotate_left
                                  · simp only [Act.put, List.setIfInBounds_toArray, List.set_cons_zero, List.set_cons_succ, i64_w, i32_w]
                                    rfl
                                  refine pure_ (i := 40) (N := some 78) (v := ?_) (a' := ?_) #[true, true, true, true, true, true, true, true, true, true, true, true, true, true, true, true, true, true, true, true, true, true, true, true, true, true, true, true, true, true, true, true, true, true, true, true, true, true, true, true, true, false, false, false, false, false] rfl rfl (any_of HT_.out (by kernel_rfl)) (fun _ _ _ h => h) (Or.inl ⟨by rfl, ?_⟩) ?_ ?_
                                  rotate_left
                                  · intro w'
                                    go_simp
                                    with_reducible rfl
                                  rotate_left
                                  · simp only [Act.put, List.setIfInBounds_toArray, List.set_cons_zero, List.set_cons_succ, i64_w, i32_w]
                                    rfl
                                  refine pure_ (i := 41) (N := some 79) (v := ?_) (a' := ?_) #[true, true, true, true, true, true, true, true, true, true, true, true, true, true, true, true, true, true, true, true, true, true, true, true, true, true, true, true, true, true, true, true, true, true, true, true, true, true, true, true, true, true, false, false, false, false] rfl rfl (any_of HT_.out (by kernel_rfl)) (fun _ _ _ h => h) (Or.inl ⟨by rfl, ?_⟩) ?_ ?_
                                  rotate_left
                                  · intro w'
                                    go_simp
                                    with_reducible rfl
                                  rotate_left
                                  · simp only [Act.put, List.setIfInBounds_toArray, List.set_cons_zero, List.set_cons_succ, i64_w, i32_w]
                                    rfl
                                  refine pure_ (i := 42) (N := some 80) (v := ?_) (a' := ?_) #[true, true, true, true, true, true, true, true, true, true, true, true, true, true, true, true, true, true, true, true, true, true, true, true, true, true, true, true, true, true, true, true, true, true, true, true, true, true, true, true, true, true, true, false, false, false] rfl rfl (any_of HT_.out (by kernel_rfl)) (fun _ _ _ h => h) (Or.inl ⟨by rfl, ?_⟩) ?_ ?_
                                  rotate_left
                                  · intro w'
                                    go_simp
                                    with_reducible rfl
                                  rotate_left
                                  · simp only [Act.put, List.setIfInBounds_toArray, List.set_cons_zero, List.set_cons_succ, i64_w, i32_w]
                                    rfl
                                  refine pure_ (i := 43) (N := some 81) (v := ?_) (a' := ?_) #[true, true, true, true, true, true, true, true, true, true, true, true, true, true, true, true, true, true, true, true, true, true, true, true, true, true, true, true, true, true, true, true, true, true, true, true, true, true, true, true, true, true, true, true, false, false] rfl rfl (any_of HT_.out (by kernel_rfl)) (fun _ _ _ h => h) (Or.inl ⟨by rfl, ?_⟩) ?_ ?_
                                  rotate_left
                                  · intro w'
                                    go_simp
                                    with_reducible rfl
                                  rotate_left
                                  · simp only [Act.put, List.setIfInBounds_toArray, List.set_cons_zero, List.set_cons_succ, i64_w, i32_w]
                                    rfl
                                  refine pure_ (i := 44) (N := some 82) (v := ?_) (a' := ?_) #[true, true, true, true, true, true, true, true, true, true, true, true, true, true, true, true, true, true, true, true, true, true, true, true, true, true, true, true, true, true, true, true, true, true, true, true, true, true, true, true, true, true, true, true, true, false] rfl rfl (any_of HT_.out (by kernel_rfl)) (fun _ _ _ h => h) (Or.inl ⟨by rfl, ?_⟩) ?_ ?_
                                  rotate_left
                                  · intro w'
                                    go_simp
                                    with_reducible rfl
                                  rotate_left
                                  · simp only [Act.put, List.setIfInBounds_toArray, List.set_cons_zero, List.set_cons_succ, i64_w, i32_w]
                                    rfl
                                  refine pure_ (i := 45) (N := some 4) (v := ?_) (a' := ?_) #[true, true, true, true, true, true, true, true, true, true, true, true, true, true, true, true, true, true, true, true, true, true, true, true, true, true, true, true, true, true, true, true, true, true, true, true, true, true, true, true, true, true, true, true, true, true] rfl rfl (any_of HT_.out (by kernel_rfl)) (fun _ _ _ h => h) (Or.inl ⟨by rfl, ?_⟩) ?_ ?_
                                  rotate_left
                                  · intro w'
                                    go_simp
                                    with_reducible rfl
                                  rotate_left
                                  · simp only [Act.put, List.setIfInBounds_toArray, List.set_cons_zero, List.set_cons_succ, i64_w, i32_w]
                                    rfl
                                  refine done_ (done_of HT_.out (by kernel_rfl)) ?_
                                  try go_wp2
                                  go_ret
                                  exact ⟨by first | rfl | (simp [errW_none, errW_some] <;> rfl) | (simp [*, errW_none, errW_some] <;> rfl), by repeat (first | (with_reducible first | exact HB.out | apply below_alloc | apply pw_below_drewN | apply below_drew1 | refine below_set ?_ GE437.out) | exact HB.out)⟩
                                · replace c35 := Bool.eq_false_iff.mpr c35
                                  subst c35
                                  have H1 : (none) = some r := by rw [if_neg (show ¬ (false = true) by decide)] at H; exact H
                                  clear H
                                  have H := H1
                                  clear H1
                                  exact absurd H (by simp)
                              · rw [if_neg c34] at H
                                have c34b0 : ((strOfNums y466).toList == (strOfNums t440).toList) = false := beq_eq_false_iff_ne.mpr c34
                                have c34b1 : ((strOfNums y466).toList != (strOfNums t440).toList) = true := bne_iff_ne.mpr c34
                                exact absurd H (by simp)
                            · rw [if_neg c33] at H
                              exact absurd H (by simp)
                          · rw [if_neg c32] at H
                            have c32b0 : (t464 == t465) = false := beq_eq_false_iff_ne.mpr c32
                            have c32b1 : (t464 != t465) = true := bne_iff_ne.mpr c32
                            exact absurd H (by simp)
                        · rw [if_neg c29] at H
                          have c29b0 : (t463 == (t440.length : Int)) = false := beq_eq_false_iff_ne.mpr c29
                          have c29b1 : (t463 != (t440.length : Int)) = true := bne_iff_ne.mpr c29
                          exact absurd H (by simp)
                      · rw [if_neg c27] at H
                        have c27b0 : (t462 == t439) = false := beq_eq_false_iff_ne.mpr c27
                        have c27b1 : (t462 != t439) = true := bne_iff_ne.mpr c27
                        exact absurd H (by simp)
                    · rw [if_neg c25] at H
                      have c25b0 : ((rd t443 1) == 72) = false := beq_eq_false_iff_ne.mpr c25
                      have c25b1 : ((rd t443 1) != 72) = true := bne_iff_ne.mpr c25
                      exact absurd H (by simp)
                  · rw [if_neg c24] at H
                    exact absurd H (by simp)
                · rw [if_neg c23] at H
                  have c23b0 : ((rd t443 0) == 80) = false := beq_eq_false_iff_ne.mpr c23
                  have c23b1 : ((rd t443 0) != 80) = true := bne_iff_ne.mpr c23
                  exact absurd H (by simp)
              · rw [if_neg c22] at H
                exact absurd H (by simp)
            · rw [if_neg c21] at H
              exact absurd H (by simp)
          · rw [if_neg c20] at H
            exact absurd H (by simp)
        · rw [if_neg c19] at H
          exact absurd H (by simp)

/-- THE ONE PURE STATEMENT of phaetonlaw24_ImageFields. -/
def phaetonlaw24_ImageFields.Pure : Prop := ∀ (a0_0 : Int) (l0_1 : List Int) (a1 : Int), (Lit.int .i64 a0_0).wf = true → l0_1.length ≤ maxLen → (∀ x ∈ l0_1, (fun (x : Int) => (Lit.int .u8 x).wf = true) x) → (Lit.int .i64 a1).wf = true → ∃ k, phaetonlaw24_ImageFields.f k a0_0 l0_1 a1 = some true
theorem phaetonlaw24_ImageFields.walk (P : phaetonlaw24_ImageFields.Pure) (a0_0 : Int) (A0_1 : Option Addr) (c0_1 : Nat) (l0_1 : List Int) (a1 : Int) (w : World) (hw0_0 : (Lit.int .i64 a0_0).wf = true) (hw0_1 : ∀ x ∈ l0_1, (fun (x : Int) => (Lit.int .u8 x).wf = true) x) (hr0_1 : Kd.C (Kd.int .u8) w A0_1 l0_1.length l0_1) (hc0_1 : l0_1.length ≤ c0_1) (hw1 : (Lit.int .i64 a1).wf = true) :
    Calls Try.prog 9 #[.agg #[.int .i64 a0_0, .slice A0_1 l0_1.length c0_1], .int .i64 a1] w fun e w' => e = .returned (.bool true) ∧ Below w.heap.size w w' := by
  obtain ⟨k, h⟩ := P a0_0 l0_1 a1 hw0_0 (by have := hr0_1.2.1; unfold maxLen; omega) hw0_1 hw1
  refine (phaetonlaw24_ImageFields.calls k a0_0 _ _ l0_1 a1 true w hr0_1 hc0_1 h).mono ?_
  rintro e w' ⟨rfl, hd⟩
  exact ⟨rfl, hd⟩

-- NOT PRINTED: function 10 (phaetonlaw24_ImageOne)

end Go.Proofs.Ytfgbcpdlhdgofaa.Px

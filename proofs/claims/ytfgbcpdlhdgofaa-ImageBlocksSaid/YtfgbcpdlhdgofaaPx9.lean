-- Written by myprint.py, a program of this session's, over the kit's print.py; not a text of print.sh's own.
import Derived.Test.YtfgbcpdlhdgofaaHandBox
import Derived.Test.YtfgbcpdlhdgofaaPx0
import Derived.Test.YtfgbcpdlhdgofaaPx1
import Derived.Test.YtfgbcpdlhdgofaaPx2
import Derived.Test.YtfgbcpdlhdgofaaPx4
import Derived.Test.YtfgbcpdlhdgofaaPx5
import Derived.Test.YtfgbcpdlhdgofaaPx6
namespace Go.Proofs.Ytfgbcpdlhdgofaa.Px
open Go.RowKit Go.Proofs.YtfgbcpdlhdgofaaW.PrintWords Go.Proofs.YtfgbcpdlhdgofaaW.PrintLast Go.Proofs.YtfgbcpdlhdgofaaW.PrintMore
attribute [local go_sem] max2_int min2_int max_two min_two max_three min_three max_four min_four   -- for this text's walks alone
set_option linter.unusedVariables false
set_option linter.unusedSimpArgs false

/-! ### phaetonlaw24_ImageBack: function 4 -/
def phaetonlaw24_ImageBack.j0 : Nat → List Int → Int → Bool → Bool → Int → List Int → Option (Bool)
  | 0, _, _, _, _, _, _ => none
  | k + 1, x1, x2, x7, x9, x375000, x375001 => (image_Read.f k x1 x2).bind fun bt398 => (if bt398.2.2 = 0 then ((image_Pack.f k bt398.1 bt398.2.1 x2).bind fun bt404 => (if bt404.2 = true then (if (strOfNums bt404.1).toList = (strOfNums x1).toList then ((image_Right.f bt398.1 bt398.2.1).bind fun t408 => (if t408 = true then (if x7 = true then (some true) else (none)) else (none))) else (none)) else (none))) else ((phaetonref24_Same.f bt398.1 bt398.2.1 0 ([] : List Int)).bind fun t409 => (if t409 = true then ((image_Right.f x375000 x375001).bind fun t410 => (if t410 = true then ((phaetonref24_May.f x2).bind fun t411 => (if (x9 == t411) = true then (if x7 = true then (some true) else (none)) else (none))) else (if (x9 == false) = true then (if x7 = true then (some true) else (none)) else (none)))) else (none))))
def phaetonlaw24_ImageBack.f (k : Nat) (a0_0 : Int) (l0_1 : List Int) (l1 : List Int) (a2 : Int) : Option (Bool) := (phaetonlaw24_head.f k).bind fun t375 => ((phaetonlaw24_Cut.f a0_0 l0_1).bind fun bt376 => ((some (([] : List Int) : List Int)).bind fun y380 => (if 0 ≤ (mn (l1.length : Int) 400) then (if (mn (l1.length : Int) 400) ≤ (l1.length : Int) then (if y380.length + (l1.take ((mn (l1.length : Int) 400) : Int).toNat).length < 140737488355328 then ((some (y380 ++ (l1.take ((mn (l1.length : Int) 400) : Int).toNat) : List Int)).bind fun y384 => ((image_Pack.f k bt376.1 bt376.2 a2).bind fun bt387 => (if bt387.2 = true then ((image_Read.f k bt387.1 a2).bind fun bt391 => (if bt391.2.2 = 0 then ((phaetonref24_Same.f bt391.1 bt391.2.1 bt376.1 bt376.2).bind fun t397 => (if t397 = true then (if (bt387.1.length : Int) = (wrap64 (18 + (bt376.2.length : Int))) then (phaetonlaw24_ImageBack.j0 k y384 a2 t375 bt387.2 bt376.1 bt376.2) else (none)) else (none))) else (none))) else (phaetonlaw24_ImageBack.j0 k y384 a2 t375 bt387.2 bt376.1 bt376.2)))) else (none)) else (none)) else (none))))
theorem phaetonlaw24_ImageBack.mono_l : ∀ k, (∀ y0 y1 y2 y3 y4 y5, LeO (phaetonlaw24_ImageBack.j0 k y0 y1 y2 y3 y4 y5) (phaetonlaw24_ImageBack.j0 (k + 1) y0 y1 y2 y3 y4 y5))
  | 0 => fun _ _ _ _ _ _ r h => by simp [phaetonlaw24_ImageBack.j0] at h
  | k + 1 => by
    have ih0 := phaetonlaw24_ImageBack.mono_l k
    · intro y0 y1 y2 y3 y4 y5
      unfold phaetonlaw24_ImageBack.j0
      repeat' first
      | (with_reducible exact ih0 _ _ _ _ _ _)
      | (with_reducible exact image_Pack.mono _ _ _ _)
      | (with_reducible exact image_Read.mono _ _ _)
      | (with_reducible exact phaetonlaw24_head.mono _)
      | (with_reducible exact LeO.refl _)
      | (with_reducible exact LeO.none _)
      | (with_reducible refine LeO.ite ?_ ?_)
      | (with_reducible refine LeO.bind ?_ (fun _ => ?_))
      | exact ih0 _ _ _ _ _ _
      | exact image_Pack.mono _ _ _ _
      | exact image_Read.mono _ _ _
      | exact phaetonlaw24_head.mono _
      | exact LeO.none _
      | refine LeO.ite ?_ ?_
      | refine LeO.bind ?_ (fun _ => ?_)
theorem phaetonlaw24_ImageBack.mono : ∀ a0 a1 a2 a3 k, LeO (phaetonlaw24_ImageBack.f k a0 a1 a2 a3) (phaetonlaw24_ImageBack.f (k + 1) a0 a1 a2 a3) := by
  intro a0 a1 a2 a3 k
  have ih0 := phaetonlaw24_ImageBack.mono_l k
  unfold phaetonlaw24_ImageBack.f
  repeat' first
      | (with_reducible exact ih0 _ _ _ _ _ _)
      | (with_reducible exact image_Pack.mono _ _ _ _)
      | (with_reducible exact image_Read.mono _ _ _)
      | (with_reducible exact phaetonlaw24_head.mono _)
      | (with_reducible exact LeO.refl _)
      | (with_reducible exact LeO.none _)
      | (with_reducible refine LeO.ite ?_ ?_)
      | (with_reducible refine LeO.bind ?_ (fun _ => ?_))
      | exact ih0 _ _ _ _ _ _
      | exact image_Pack.mono _ _ _ _
      | exact image_Read.mono _ _ _
      | exact phaetonlaw24_head.mono _
      | exact LeO.none _
      | refine LeO.ite ?_ ?_
      | refine LeO.bind ?_ (fun _ => ?_)
set_option maxHeartbeats 8000000 in
set_option maxRecDepth 100000 in
theorem phaetonlaw24_ImageBack.calls (k : Nat) (a0_0 : Int) (A0_1 : Option Addr) (c0_1 : Nat) (l0_1 : List Int) (A1 : Option Addr) (c1 : Nat) (l1 : List Int) (a2 : Int) (r : Bool) (w : World) (hr0_1 : Kd.C (Kd.int .u8) w A0_1 l0_1.length l0_1) (hc0_1 : l0_1.length ≤ c0_1) (hr1 : Kd.C (Kd.int .u8) w A1 l1.length l1) (hc1 : l1.length ≤ c1) (h : phaetonlaw24_ImageBack.f k a0_0 l0_1 l1 a2 = some r) :
    Calls Try.prog 4 #[.agg #[.int .i64 a0_0, .slice A0_1 l0_1.length c0_1], .slice A1 l1.length c1, .int .i64 a2] w fun e w' => e = .returned (.bool r) ∧ Below w.heap.size w w' := by
  have hu24 := Try.underlying24
  have HR0_1 := Aside0.mk hr0_1
  have HC0_1 := Aside0.mk hc0_1
  clear hr0_1 hc0_1
  have HR1 := Aside0.mk hr1
  have HC1 := Aside0.mk hc1
  clear hr1 hc1
  have HB := Aside0.mk (Below.refl w.heap.size w)
  have H : ((phaetonlaw24_head.f k).bind fun t375 => ((phaetonlaw24_Cut.f a0_0 l0_1).bind fun bt376 => ((some (([] : List Int) : List Int)).bind fun y380 => (if 0 ≤ (mn (l1.length : Int) 400) then (if (mn (l1.length : Int) 400) ≤ (l1.length : Int) then (if y380.length + (l1.take ((mn (l1.length : Int) 400) : Int).toNat).length < 140737488355328 then ((some (y380 ++ (l1.take ((mn (l1.length : Int) 400) : Int).toNat) : List Int)).bind fun y384 => ((image_Pack.f k bt376.1 bt376.2 a2).bind fun bt387 => (if bt387.2 = true then ((image_Read.f k bt387.1 a2).bind fun bt391 => (if bt391.2.2 = 0 then ((phaetonref24_Same.f bt391.1 bt391.2.1 bt376.1 bt376.2).bind fun t397 => (if t397 = true then (if (bt387.1.length : Int) = (wrap64 (18 + (bt376.2.length : Int))) then (phaetonlaw24_ImageBack.j0 k y384 a2 t375 bt387.2 bt376.1 bt376.2) else (none)) else (none))) else (none))) else (phaetonlaw24_ImageBack.j0 k y384 a2 t375 bt387.2 bt376.1 bt376.2)))) else (none)) else (none)) else (none))))) = some r := h
  clear h
  replace H := Option.bind_eq_some_iff.mp H
  obtain ⟨t375, A40, H⟩ := H
  replace H : ((phaetonlaw24_Cut.f a0_0 l0_1).bind fun bt376 => ((some (([] : List Int) : List Int)).bind fun y380 => (if 0 ≤ (mn (l1.length : Int) 400) then (if (mn (l1.length : Int) 400) ≤ (l1.length : Int) then (if y380.length + (l1.take ((mn (l1.length : Int) 400) : Int).toNat).length < 140737488355328 then ((some (y380 ++ (l1.take ((mn (l1.length : Int) 400) : Int).toNat) : List Int)).bind fun y384 => ((image_Pack.f k bt376.1 bt376.2 a2).bind fun bt387 => (if bt387.2 = true then ((image_Read.f k bt387.1 a2).bind fun bt391 => (if bt391.2.2 = 0 then ((phaetonref24_Same.f bt391.1 bt391.2.1 bt376.1 bt376.2).bind fun t397 => (if t397 = true then (if (bt387.1.length : Int) = (wrap64 (18 + (bt376.2.length : Int))) then (phaetonlaw24_ImageBack.j0 k y384 a2 t375 bt387.2 bt376.1 bt376.2) else (none)) else (none))) else (none))) else (phaetonlaw24_ImageBack.j0 k y384 a2 t375 bt387.2 bt376.1 bt376.2)))) else (none)) else (none)) else (none)))) = some r := H
  have A4 := Aside0.mk A40
  clear A40
  replace H := Option.bind_eq_some_iff.mp H
  obtain ⟨⟨t376, t377⟩, A50, H⟩ := H
  replace H : ((some (([] : List Int) : List Int)).bind fun y380 => (if 0 ≤ (mn (l1.length : Int) 400) then (if (mn (l1.length : Int) 400) ≤ (l1.length : Int) then (if y380.length + (l1.take ((mn (l1.length : Int) 400) : Int).toNat).length < 140737488355328 then ((some (y380 ++ (l1.take ((mn (l1.length : Int) 400) : Int).toNat) : List Int)).bind fun y384 => ((image_Pack.f k t376 t377 a2).bind fun bt387 => (if bt387.2 = true then ((image_Read.f k bt387.1 a2).bind fun bt391 => (if bt391.2.2 = 0 then ((phaetonref24_Same.f bt391.1 bt391.2.1 t376 t377).bind fun t397 => (if t397 = true then (if (bt387.1.length : Int) = (wrap64 (18 + (t377.length : Int))) then (phaetonlaw24_ImageBack.j0 k y384 a2 t375 bt387.2 t376 t377) else (none)) else (none))) else (none))) else (phaetonlaw24_ImageBack.j0 k y384 a2 t375 bt387.2 t376 t377)))) else (none)) else (none)) else (none))) = some r := H
  have A5 := Aside0.mk A50
  clear A50
  obtain ⟨y380, hy380⟩ : ∃ y_ : List Int, y_ = (([] : List Int)) := ⟨_, rfl⟩
  replace H : (if 0 ≤ (mn (l1.length : Int) 400) then (if (mn (l1.length : Int) 400) ≤ (l1.length : Int) then (if y380.length + (l1.take ((mn (l1.length : Int) 400) : Int).toNat).length < 140737488355328 then ((some (y380 ++ (l1.take ((mn (l1.length : Int) 400) : Int).toNat) : List Int)).bind fun y384 => ((image_Pack.f k t376 t377 a2).bind fun bt387 => (if bt387.2 = true then ((image_Read.f k bt387.1 a2).bind fun bt391 => (if bt391.2.2 = 0 then ((phaetonref24_Same.f bt391.1 bt391.2.1 t376 t377).bind fun t397 => (if t397 = true then (if (bt387.1.length : Int) = (wrap64 (18 + (t377.length : Int))) then (phaetonlaw24_ImageBack.j0 k y384 a2 t375 bt387.2 t376 t377) else (none)) else (none))) else (none))) else (phaetonlaw24_ImageBack.j0 k y384 a2 t375 bt387.2 t376 t377)))) else (none)) else (none)) else (none)) = some r := by first | (rw [hy380]; with_reducible exact H) | (have H2_ := (Option.bind_some _ _).symm.trans H; rw [hy380]; with_reducible exact H2_) | (have H2_ := (Option.bind_some _ _).symm.trans H; with_reducible exact H2_) | with_reducible exact H | (rw [hy380]; exact H) | exact H
  have Ny380 := Aside0.mk hy380
  clear hy380
  obtain ⟨ji6, hji6⟩ : ∃ j_ : Int, (mn (l1.length : Int) 400) = j_ := ⟨_, rfl⟩
  replace H : (if 0 ≤ (ji6) then (if (ji6) ≤ (l1.length : Int) then (if y380.length + (l1.take ((ji6) : Int).toNat).length < 140737488355328 then ((some (y380 ++ (l1.take ((ji6) : Int).toNat) : List Int)).bind fun y384 => ((image_Pack.f k t376 t377 a2).bind fun bt387 => (if bt387.2 = true then ((image_Read.f k bt387.1 a2).bind fun bt391 => (if bt391.2.2 = 0 then ((phaetonref24_Same.f bt391.1 bt391.2.1 t376 t377).bind fun t397 => (if t397 = true then (if (bt387.1.length : Int) = (wrap64 (18 + (t377.length : Int))) then (phaetonlaw24_ImageBack.j0 k y384 a2 t375 bt387.2 t376 t377) else (none)) else (none))) else (none))) else (phaetonlaw24_ImageBack.j0 k y384 a2 t375 bt387.2 t376 t377)))) else (none)) else (none)) else (none)) = some r := by first | (rw [hji6] at H; exact H) | (simp only [hji6] at H ⊢; exact H)
  (try rw [hji6] at A4)
  (try rw [hji6] at A5)
  (try (have hji6h : ji6 ≤ 400 := by (rw [← hji6]; unfold mn; (repeat' split) <;> omega)))
  (try (have hji6g : ji6 ≤ 64 := by omega))
  (try (have hji6l : 0 ≤ ji6 := by (rw [← hji6]; unfold mn; (repeat' split) <;> omega)))
  (try (have hji6m : 0 ≤ ji6 := by omega))
  have hji6_ : (if 400 < (l1.length : Int) then 400 else (l1.length : Int)) = ji6 := hji6
  by_cases c7 : 0 ≤ (ji6)
  · rw [if_pos c7] at H
    have c7b0 := eq_true c7
    have c7b1 : decide (0 ≤ (ji6)) = true := decide_eq_true c7
    have c7m : max (ji6) 0 = (ji6) := by omega
    clear c7
    by_cases c8 : (ji6) ≤ (l1.length : Int)
    · rw [if_pos c8] at H
      have c8b0 := eq_true c8
      have c8b1 : decide ((ji6) ≤ (l1.length : Int)) = true := decide_eq_true c8
      clear c8
      by_cases c9 : y380.length + (l1.take ((ji6) : Int).toNat).length < 140737488355328
      · rw [if_pos c9] at H
        have LMc9 := Aside0.mk c9
        clear c9
        obtain ⟨y384, hy384⟩ : ∃ y_ : List Int, y_ = (y380 ++ (l1.take ((ji6) : Int).toNat)) := ⟨_, rfl⟩
        replace H : ((image_Pack.f k t376 t377 a2).bind fun bt387 => (if bt387.2 = true then ((image_Read.f k bt387.1 a2).bind fun bt391 => (if bt391.2.2 = 0 then ((phaetonref24_Same.f bt391.1 bt391.2.1 t376 t377).bind fun t397 => (if t397 = true then (if (bt387.1.length : Int) = (wrap64 (18 + (t377.length : Int))) then (phaetonlaw24_ImageBack.j0 k y384 a2 t375 bt387.2 t376 t377) else (none)) else (none))) else (none))) else (phaetonlaw24_ImageBack.j0 k y384 a2 t375 bt387.2 t376 t377))) = some r := by first | (rw [hy384]; with_reducible exact H) | (have H2_ := (Option.bind_some _ _).symm.trans H; rw [hy384]; with_reducible exact H2_) | (have H2_ := (Option.bind_some _ _).symm.trans H; with_reducible exact H2_) | with_reducible exact H | (rw [hy384]; exact H) | exact H
        have Ny384 := Aside0.mk hy384
        clear hy384
        replace H := Option.bind_eq_some_iff.mp H
        obtain ⟨⟨t387, t390⟩, A100, H⟩ := H
        replace H : (if t390 = true then ((image_Read.f k t387 a2).bind fun bt391 => (if bt391.2.2 = 0 then ((phaetonref24_Same.f bt391.1 bt391.2.1 t376 t377).bind fun t397 => (if t397 = true then (if (t387.length : Int) = (wrap64 (18 + (t377.length : Int))) then (phaetonlaw24_ImageBack.j0 k y384 a2 t375 t390 t376 t377) else (none)) else (none))) else (none))) else (phaetonlaw24_ImageBack.j0 k y384 a2 t375 t390 t376 t377)) = some r := H
        have A10 := Aside0.mk A100
        clear A100
        have HC11 := Aside0.mk H
        clear H
        go_enter Try.func4, Try.ntmps4
        (try simp only [List.append])
        go_upto_if 32 with (first | ((with_reducible refine gate_dst (N := 3) rfl ?_); (try (refine gate_guard (by rfl) ?_; dsimp only)); refine box_event ?hg (N := 3) ?hd (cs := #[.int .i64 a0_0, .slice A0_1 l0_1.length c0_1]) (t := 24) ?hr ?_; (case hd => rfl); (case hg => rfl); (case hr => first | (go_simp; done) | (go_simp; rfl)); intro gb374 hg w12 hbox hb; have n0_ := Aside0.mk (below_step (by repeat (first | (with_reducible first | exact HB.out | apply below_alloc | apply pw_below_drewN | apply below_drew1) | exact HB.out)) hb); have n1_ := Aside0.mk (hbox); have n2_ := Aside0.mk ((by rw [hg]; exact (below_size (by repeat (first | (with_reducible first | exact HB.out | apply below_alloc | apply pw_below_drewN | apply below_drew1) | exact HB.out))) : w.heap.size ≤ gb374)); have n3_ := Aside0.mk ((by rw [hg]; exact (below_size (by repeat (first | (with_reducible first | exact HB.out | apply below_alloc | apply pw_below_drewN | apply below_drew1) | exact HB.out))) : w.heap.size ≤ gb374)); clear HB; have HB := n0_; have BK374 := n1_; have GW374 := n2_; have GE374 := n3_; clear n0_ n1_ n2_ n3_; clear hb hbox hg) | ((with_reducible refine gate_callee (f := 11) rfl ?_); refine goesL_ (some 16) rfl rfl Try.func11 (by kernel_rfl) rfl #[] rfl (by (try simp only [List.map_toArray, List.map_cons, List.map_nil]); first | done | rfl | (simp only [List.length_drop, List.length_take]; rfl)) ?_; (with_reducible refine (phaetonlaw24_head.calls k  t375 _ A4.out).mono ?_); rintro e w13 ⟨rfl, hb⟩; refine ⟨_, rfl, ?_⟩; have n0_ := Aside0.mk (blk_below (g := gb374) (o := .cells #[.int .i64 a0_0, .slice A0_1 l0_1.length c0_1] 24 (0, 0)) (by (with_reducible repeat (first | refine blk_drewN ?_ _ | refine blk_drew ?_ | refine blk_alloc ?_ _)); exact BK374.out) hb); have n1_ := Aside0.mk (below_step (by repeat (first | (with_reducible first | exact HB.out | apply below_alloc | apply pw_below_drewN | apply below_drew1 | refine below_set ?_ GE374.out) | exact HB.out)) hb); clear BK374; clear HB; have BK374 := n0_; have HB := n1_; clear n0_ n1_; (try clear hb); (try clear hb2); (try clear hk); (try clear hi); have hcz14_0 : w13.cell? ⟨gb374, 0, none⟩ = some (.int .i64 a0_0) := (blk_cell BK374.out 0).trans rfl; have hcz14_1 : w13.cell? ⟨gb374, 1, none⟩ = some (.slice A0_1 l0_1.length c0_1) := (blk_cell BK374.out 1).trans rfl; have hfz14_0 := blk_frozen BK374.out 0; have hfz14_1 := blk_frozen BK374.out 1) | ((with_reducible refine gate_callee (f := 12) rfl ?_); refine goesL_ (some 18) rfl rfl Try.func12 (by kernel_rfl) rfl #[.agg #[.int .i64 a0_0, .slice A0_1 l0_1.length c0_1]] rfl (by (try simp only [List.map_toArray, List.map_cons, List.map_nil]); first | done | rfl | (simp only [List.length_drop, List.length_take]; rfl)) ?_; (with_reducible refine (phaetonlaw24_Cut.calls a0_0 _ _ l0_1 t376 t377 _ ?side1 ?side2 A5.out).mono ?_); (case side1 => repeat (first | exact (Kd.C_below HR0_1.out HB.out) | (with_reducible refine Kd.C_alloc ?_ _) | (with_reducible refine Kd.C_drewN ?_ _) | (with_reducible refine Kd.C_drew ?_))); (case side2 => exact HC0_1.out); rintro e w15 ⟨v378, rfl, ho0, hb⟩; refine ⟨_, rfl, ?_⟩; have n0_ := Aside0.mk (Kd.R_lower ho0 (below_size (by repeat (first | (with_reducible first | exact HB.out | apply below_alloc | apply pw_below_drewN | apply below_drew1 | refine below_set ?_ GE374.out) | exact HB.out)))); have n1_ := Aside0.mk (blk_below (g := gb374) (o := .cells #[.int .i64 a0_0, .slice A0_1 l0_1.length c0_1] 24 (0, 0)) (by (with_reducible repeat (first | refine blk_drewN ?_ _ | refine blk_drew ?_ | refine blk_alloc ?_ _)); exact BK374.out) hb); have n2_ := Aside0.mk (below_step (by repeat (first | (with_reducible first | exact HB.out | apply below_alloc | apply pw_below_drewN | apply below_drew1 | refine below_set ?_ GE374.out) | exact HB.out)) hb); clear BK374; clear HB; have HO379 := n0_; have BK374 := n1_; have HB := n2_; clear n0_ n1_ n2_; (try clear hb); (try clear hb2); (try clear hk); (try clear hi); (try clear ho0); have hcz16_0 : w15.cell? ⟨gb374, 0, none⟩ = some (.int .i64 a0_0) := (blk_cell BK374.out 0).trans rfl; have hcz16_1 : w15.cell? ⟨gb374, 1, none⟩ = some (.slice A0_1 l0_1.length c0_1) := (blk_cell BK374.out 1).trans rfl; have hfz16_0 := blk_frozen BK374.out 0; have hfz16_1 := blk_frozen BK374.out 1; obtain ⟨Ao17, co17, eo17⟩ := Kd.R_slice HO379.out; subst eo17) | ((with_reducible refine gate_dst (N := 19) rfl ?_); (try (refine gate_guard (by rfl) ?_; dsimp only)); refine Kd.R_lit (Kd.int .u8) _ 5 ?hg (N := 19) ?hd (xs := ([] : List Int)) (inner := []) (ok := fun _ => True) (okp := fun _ => True) ?hr ?hp (fun _ hk => hk) trivial (Below.refl _ _) (Nat.le_refl _) (by simp) ?_; (case hd => rfl); (case hg => rfl); (case hr => first | (go_simp; done) | (go_simp; rfl)); (case hp => exact (Reps.none _ _)); intro v381 w18 ho19 hb hg_ hnew_; clear hg_ hnew_; (first | rw [← Ny380.out] at ho19 | (simp only [Int.reduceToNat] at ho19; rw [← Ny380.out] at ho19)); have n0_ := Aside0.mk (Kd.R_elder' (by (with_reducible repeat (first | apply Kd.R_alloc | apply Kd.R_drewN | apply Kd.R_drew)); exact (Kd.R_mono (Kd.R_far (p := ⟨gb374, 1, none⟩) (Kd.R_far (p := ⟨gb374, 0, none⟩) (Kd.R_types HO379.out BK374.out (by decide)) (fun _ hk => hk.2) (.int .i64 t376)) (fun _ hk => hk.2) (.slice Ao17 t377.length co17)) (fun _ h_ => h_.1))) (Kd.R_base ho19) hb); have n1_ := Aside0.mk (Kd.R_lower (Kd.R_new' ho19 (Kd.R_lt (by (with_reducible repeat (first | apply Kd.R_alloc | apply Kd.R_drewN | apply Kd.R_drew)); exact (Kd.R_mono (Kd.R_far (p := ⟨gb374, 1, none⟩) (Kd.R_far (p := ⟨gb374, 0, none⟩) (Kd.R_types HO379.out BK374.out (by decide)) (fun _ hk => hk.2) (.int .i64 t376)) (fun _ hk => hk.2) (.slice Ao17 t377.length co17)) (fun _ h_ => h_.1))))) (below_size (by repeat (first | (with_reducible first | exact HB.out | apply below_alloc | apply pw_below_drewN | apply below_drew1 | refine below_set ?_ GE374.out) | exact HB.out)))); have n2_ := Aside0.mk (blk_below (g := gb374) (o := .cells #[.int .i64 t376, .slice Ao17 t377.length co17] 24 (0, 0)) (by (with_reducible repeat (first | refine blk_drewN ?_ _ | refine blk_drew ?_ | refine blk_alloc ?_ _)); refine blk_put (cs := #[.int .i64 t376, .slice A0_1 l0_1.length c0_1]) ?_ 1 _ rfl; (with_reducible repeat (first | refine blk_drewN ?_ _ | refine blk_drew ?_ | refine blk_alloc ?_ _)); refine blk_put (cs := #[.int .i64 a0_0, .slice A0_1 l0_1.length c0_1]) ?_ 0 _ rfl; (with_reducible repeat (first | refine blk_drewN ?_ _ | refine blk_drew ?_ | refine blk_alloc ?_ _)); exact BK374.out) hb); have n3_ := Aside0.mk (below_step (by repeat (first | (with_reducible first | exact HB.out | apply below_alloc | apply pw_below_drewN | apply below_drew1 | refine below_set ?_ GE374.out) | exact HB.out)) hb); clear HO379; clear BK374; clear HB; have HO379 := n0_; have HO382 := n1_; have BK374 := n2_; have HB := n3_; clear n0_ n1_ n2_ n3_; clear hb ho19; obtain ⟨i020, hi020, _, hsz20, _⟩ := info_parts info5; obtain ⟨hcut20, hA20, hC20⟩ := print_take_of (P := Try.prog) (Value.int .u8) 0 22 5 .i64 Try.underlying22 hi020 hsz20 A1 c1 l1 (ji6) (of_decide_eq_true (by first | (with_reducible assumption) | assumption)) (of_decide_eq_true (by first | (with_reducible assumption) | assumption)) HC1.out; have HR383 := Aside0.mk (Kd.C_of_reads (h1 := fun _ => rfl) (hA20 _ (Kd.reads_of_C HR1.out))); have HC383 := Aside0.mk hC20; clear hA20 hC20 hi020 hsz20) | ((with_reducible refine gate_builtin (b := .append) (xs := #[.tmp 19, .tmp 24]) rfl ?_); (try (refine gate_guard (by rfl) ?_; dsimp only)); at_builtin; refine Kd.R_append_rows (Kd.int .u8) (w0 := w) w.heap.size rfl (.tmp 19) (.tmp 24) 22 5 (.int .u8 0) 1 rfl Try.underlying22 info5 rfl (by decide) (by omega) v381 y380 (l1.take ((ji6) : Int).toNat) _ _ _ (fun k_ => some k_ ≠ (.slice Ao17 t377.length co17 : Value).ownBlock) (fun _ => False) rfl rfl ?aO ?aR (fun _ _ h => h) (fun _ h => h.elim) ?aF ?aB ?aS ?aL ?_; (case aR => first | (refine Eq.mp (congrArg (fun n_ => ReadsRow _ _ _ _ n_ _) (show (l1.take ((ji6) : Int).toNat).length = (ji6).toNat from (by rw [List.length_take]; have h_ : ((ji6) : Int) ≤ (l1.length : Int) := of_decide_eq_true (by first | (with_reducible assumption) | assumption); omega))) ?_; repeat (first | exact (Kd.C_below HR383.out HB.out) | (with_reducible refine Kd.C_alloc ?_ _) | (with_reducible refine Kd.C_drewN ?_ _) | (with_reducible refine Kd.C_drew ?_)); done) | (rw [← show (l1.take ((ji6) : Int).toNat).length = (ji6).toNat from (by rw [List.length_take]; have h_ : ((ji6) : Int) ≤ (l1.length : Int) := of_decide_eq_true (by first | (with_reducible assumption) | assumption); omega)]; repeat (first | exact (Kd.C_below HR383.out HB.out) | (with_reducible refine Kd.C_alloc ?_ _) | (with_reducible refine Kd.C_drewN ?_ _) | (with_reducible refine Kd.C_drew ?_))) | (repeat (first | exact (Kd.C_below HR383.out HB.out) | (with_reducible refine Kd.C_alloc ?_ _) | (with_reducible refine Kd.C_drewN ?_ _) | (with_reducible refine Kd.C_drew ?_)))); (case aB => exact (by repeat (first | (with_reducible first | exact HB.out | apply below_alloc | apply pw_below_drewN | apply below_drew1 | refine below_set ?_ GE374.out) | exact HB.out))); (case aF => exact (fun k_ hk => Kd.fresh' (Kd.R_lt (by (with_reducible repeat (first | apply Kd.R_alloc | apply Kd.R_drewN | apply Kd.R_drew)); exact HO379.out)) k_ hk)); (case aO => exact (by (with_reducible repeat (first | apply Kd.R_alloc | apply Kd.R_drewN | apply Kd.R_drew)); exact Kd.R_mono HO382.out (fun _ hk => hk.2))); (case aS => exact (below_size (by repeat (first | (with_reducible first | exact HB.out | apply below_alloc | apply pw_below_drewN | apply below_drew1 | refine below_set ?_ GE374.out) | exact HB.out)))); (case aL => have := LMc9.out; have hlx_ := (show (l1.take ((ji6) : Int).toNat).length = (ji6).toNat from (by rw [List.length_take]; have h_ : ((ji6) : Int) ≤ (l1.length : Int) := of_decide_eq_true (by first | (with_reducible assumption) | assumption); omega)); omega); intro v385 w21 ho hb hg hat; rw [← Ny384.out] at ho; have n0_ := Aside0.mk (blk_grown (g := gb374) (o := .cells #[.int .i64 t376, .slice Ao17 t377.length co17] 24 (0, 0)) (by (with_reducible repeat (first | refine blk_drewN ?_ _ | refine blk_drew ?_ | refine blk_alloc ?_ _)); exact BK374.out) hg (Kd.R_ne HO382.out BK374.out (by decide))); have n1_ := Aside0.mk (Kd.R_after (ok := (fun _ => True)) (by (with_reducible repeat (first | apply Kd.R_alloc | apply Kd.R_drewN | apply Kd.R_drew)); exact HO379.out) hg hat); have n2_ := Aside0.mk (hb); have n3_ := Aside0.mk (ho); clear BK374; clear HO379; clear HB; clear HO382; have BK374 := n0_; have HO379 := n1_; have HB := n2_; have HO386 := n3_; clear n0_ n1_ n2_ n3_; clear ho hb hg hat; have hcz22_0 : w21.cell? ⟨gb374, 0, none⟩ = some (.int .i64 t376) := (blk_cell BK374.out 0).trans rfl; have hcz22_1 : w21.cell? ⟨gb374, 1, none⟩ = some (.slice Ao17 t377.length co17) := (blk_cell BK374.out 1).trans rfl; have hfz22_0 := blk_frozen BK374.out 0; have hfz22_1 := blk_frozen BK374.out 1) | ((with_reducible refine gate_callee (f := 13) rfl ?_); refine goesL_ (some 29) rfl rfl Try.func13 (by kernel_rfl) rfl #[.agg #[.int .i64 t376, .slice Ao17 t377.length co17], .int .i64 a2] rfl (by (try simp only [List.map_toArray, List.map_cons, List.map_nil]); first | done | rfl | (simp only [List.length_drop, List.length_take]; rfl)) ?_; (with_reducible refine (image_Pack.calls k t376 _ _ t377 a2 t387 t390 _ ?side1 ?side2 A10.out).mono ?_); (case side1 => repeat (first | exact (Kd.R_reads' HO379.out).2.2 | (with_reducible refine Kd.C_alloc ?_ _) | (with_reducible refine Kd.C_drewN ?_ _) | (with_reducible refine Kd.C_drew ?_))); (case side2 => exact (Kd.R_reads' HO379.out).2.1); rintro e w23 ⟨v388, rfl, ho0, hb⟩; refine ⟨_, rfl, ?_⟩; have n0_ := Aside0.mk (Kd.R_elder' (by (with_reducible repeat (first | apply Kd.R_alloc | apply Kd.R_drewN | apply Kd.R_drew)); exact HO379.out) (Kd.R_base ho0) hb); have n1_ := Aside0.mk (Kd.R_elder' (by (with_reducible repeat (first | apply Kd.R_alloc | apply Kd.R_drewN | apply Kd.R_drew)); exact HO386.out) (Kd.R_base ho0) hb); have n2_ := Aside0.mk (Kd.R_lower (Kd.R_new' (Kd.R_new' ho0 (Kd.R_lt (by (with_reducible repeat (first | apply Kd.R_alloc | apply Kd.R_drewN | apply Kd.R_drew)); exact HO379.out))) (Kd.R_lt (by (with_reducible repeat (first | apply Kd.R_alloc | apply Kd.R_drewN | apply Kd.R_drew)); exact HO386.out))) (below_size (by repeat (first | (with_reducible first | exact HB.out | apply below_alloc | apply pw_below_drewN | apply below_drew1 | refine below_set ?_ GE374.out) | exact HB.out)))); have n3_ := Aside0.mk (blk_below (g := gb374) (o := .cells #[.int .i64 t376, .slice Ao17 t377.length co17] 24 (0, 0)) (by (with_reducible repeat (first | refine blk_drewN ?_ _ | refine blk_drew ?_ | refine blk_alloc ?_ _)); exact BK374.out) hb); have n4_ := Aside0.mk (below_step (by repeat (first | (with_reducible first | exact HB.out | apply below_alloc | apply pw_below_drewN | apply below_drew1 | refine below_set ?_ GE374.out) | exact HB.out)) hb); clear HO379; clear HO386; clear BK374; clear HB; have HO379 := n0_; have HO386 := n1_; have HO389 := n2_; have BK374 := n3_; have HB := n4_; clear n0_ n1_ n2_ n3_ n4_; (try clear hb); (try clear hb2); (try clear hk); (try clear hi); (try clear ho0)))
        (try simp only [Act.put, List.setIfInBounds_toArray, List.set_cons_zero, List.set_cons_succ])
        go_cut [] (fun wc => ∃ (kq : Nat), Aside0 (phaetonlaw24_ImageBack.j0 kq y384 a2 t375 t390 t376 t377 = some r) ∧ Aside0 (kq ≤ k) ∧ Aside0 (Kd.R (Kd.int .u8) 5 wc w.heap.size (fun k_ => some k_ ≠ ((.slice Ao17 t377.length co17) : Value).ownBlock) v385 y384) ∧ Aside0 (Kd.R (Kd.int .u8) 5 wc w.heap.size (fun k_ => some k_ ≠ (v385 : Value).ownBlock) (.slice Ao17 t377.length co17) t377) ∧ Aside0 (wc.heap[gb374]? = some (.cells #[.int .i64 t376, (.slice Ao17 t377.length co17)] 24 (0, 0))) ∧ Aside0 (Below w.heap.size w wc))
        case first =>
          have H := HC11.out
          clear HC11
          by_cases c24 : t390 = true
          · subst c24
            have H1 : ((image_Read.f k t387 a2).bind fun bt391 => (if bt391.2.2 = 0 then ((phaetonref24_Same.f bt391.1 bt391.2.1 t376 t377).bind fun t397 => (if t397 = true then (if (t387.length : Int) = (wrap64 (18 + (t377.length : Int))) then (phaetonlaw24_ImageBack.j0 k y384 a2 t375 true t376 t377) else (none)) else (none))) else (none))) = some r := by rw [if_pos rfl] at H; exact H
            clear H
            have H := H1
            clear H1
            replace H := Option.bind_eq_some_iff.mp H
            obtain ⟨⟨t391, t392, t395⟩, A250, H⟩ := H
            replace H : (if t395 = 0 then ((phaetonref24_Same.f t391 t392 t376 t377).bind fun t397 => (if t397 = true then (if (t387.length : Int) = (wrap64 (18 + (t377.length : Int))) then (phaetonlaw24_ImageBack.j0 k y384 a2 t375 true t376 t377) else (none)) else (none))) else (none)) = some r := H
            have A25 := Aside0.mk A250
            clear A250
            by_cases c26 : t395 = 0
            · rw [if_pos c26] at H
              have c26b0 : (t395 == 0) = true := beq_iff_eq.mpr c26
              have c26b1 : (t395 != 0) = false := bne_eq_false_iff_eq.mpr c26
              clear c26
              (first | rw [c26b0] | (simp only [i64_w, i32_w]; rw [c26b0]) | skip)
              replace H := Option.bind_eq_some_iff.mp H
              obtain ⟨t397, A270, H⟩ := H
              replace H : (if t397 = true then (if (t387.length : Int) = (wrap64 (18 + (t377.length : Int))) then (phaetonlaw24_ImageBack.j0 k y384 a2 t375 true t376 t377) else (none)) else (none)) = some r := H
              have A27 := Aside0.mk A270
              clear A270
              by_cases c28 : t397 = true
              · subst c28
                have H1 : (if (t387.length : Int) = (wrap64 (18 + (t377.length : Int))) then (phaetonlaw24_ImageBack.j0 k y384 a2 t375 true t376 t377) else (none)) = some r := by rw [if_pos rfl] at H; exact H
                clear H
                have H := H1
                clear H1
                by_cases c29 : (t387.length : Int) = (wrap64 (18 + (t377.length : Int)))
                · rw [if_pos c29] at H
                  have c29b0 : ((t387.length : Int) == (wrap64 (18 + (t377.length : Int)))) = true := beq_iff_eq.mpr c29
                  have c29b1 : ((t387.length : Int) != (wrap64 (18 + (t377.length : Int)))) = false := bne_eq_false_iff_eq.mpr c29
                  clear c29
                  have H' := Aside0.mk H
                  clear H
                  obtain ⟨Ao30, co30, eo30⟩ := Kd.R_slice HO389.out
                  subst eo30
                  go_wp2_with (first | ((with_reducible refine gate_store (t := 24) (p := 10) rfl ?_); refine HW.store_box2 rfl rfl 24 _ _ rfl rfl rfl BK396.out rfl (by kernel_rfl) (by intro q hq; simp only [List.mem_cons, List.not_mem_nil, or_false] at hq; rcases hq with rfl | rfl <;> rfl) ?_; intro w1_ hw1_ hk1_; simp only [List.toList_toArray, World.setCells, Nat.zero_add, Nat.reduceAdd] at hw1_; subst hw1_; have hcb396_0 := (blk_cell hk1_ 0).trans rfl; have hfb396_0 := blk_frozen hk1_ 0; have hcb396_1 := (blk_cell hk1_ 1).trans rfl; have hfb396_1 := blk_frozen hk1_ 1; clear hk1_) | ((with_reducible refine gate_store (t := 24) (p := 3) rfl ?_); refine HW.store_box2 rfl rfl 24 _ _ rfl rfl rfl BK374.out rfl (by kernel_rfl) (by intro q hq; simp only [List.mem_cons, List.not_mem_nil, or_false] at hq; rcases hq with rfl | rfl <;> rfl) ?_; intro w1_ hw1_ hk1_; simp only [List.toList_toArray, World.setCells, Nat.zero_add, Nat.reduceAdd] at hw1_; subst hw1_; have hcb374_0 := (blk_cell hk1_ 0).trans rfl; have hfb374_0 := blk_frozen hk1_ 0; have hcb374_1 := (blk_cell hk1_ 1).trans rfl; have hfb374_1 := blk_frozen hk1_ 1; clear hk1_) | ((with_reducible refine gate_callee (f := 15) rfl ?_); refine goesL_ (some 36) rfl rfl Try.func15 (by kernel_rfl) rfl #[.slice Ao30 t387.length co30, .int .i64 a2] rfl (by (try simp only [List.map_toArray, List.map_cons, List.map_nil]); first | done | rfl | (simp only [List.length_drop, List.length_take]; rfl)) ?_; (with_reducible refine (image_Read.calls k _ _ t387 a2 t391 t392 t395 _ ?side1 ?side2 A25.out).mono ?_); (case side1 => repeat (first | exact (Kd.R_reads' HO389.out).2.2 | (with_reducible refine Kd.C_alloc ?_ _) | (with_reducible refine Kd.C_drewN ?_ _) | (with_reducible refine Kd.C_drew ?_))); (case side2 => exact (Kd.R_reads' HO389.out).2.1); rintro e w31 ⟨v393, rfl, ho0, hb⟩; refine ⟨_, rfl, ?_⟩; have n0_ := Aside0.mk (Kd.R_elder' (by (with_reducible repeat (first | apply Kd.R_alloc | apply Kd.R_drewN | apply Kd.R_drew)); exact HO379.out) (Kd.R_base ho0) hb); have n1_ := Aside0.mk (Kd.R_elder' (by (with_reducible repeat (first | apply Kd.R_alloc | apply Kd.R_drewN | apply Kd.R_drew)); exact HO386.out) (Kd.R_base ho0) hb); have n2_ := Aside0.mk (Kd.R_elder' (by (with_reducible repeat (first | apply Kd.R_alloc | apply Kd.R_drewN | apply Kd.R_drew)); exact HO389.out) (Kd.R_base ho0) hb); have n3_ := Aside0.mk (Kd.R_lower (Kd.R_new' (Kd.R_new' (Kd.R_new' ho0 (Kd.R_lt (by (with_reducible repeat (first | apply Kd.R_alloc | apply Kd.R_drewN | apply Kd.R_drew)); exact HO379.out))) (Kd.R_lt (by (with_reducible repeat (first | apply Kd.R_alloc | apply Kd.R_drewN | apply Kd.R_drew)); exact HO386.out))) (Kd.R_lt (by (with_reducible repeat (first | apply Kd.R_alloc | apply Kd.R_drewN | apply Kd.R_drew)); exact HO389.out))) (below_size (by repeat (first | (with_reducible first | exact HB.out | apply below_alloc | apply pw_below_drewN | apply below_drew1 | refine below_set ?_ GE374.out) | exact HB.out)))); have n4_ := Aside0.mk (blk_below (g := gb374) (o := .cells #[.int .i64 t376, .slice Ao17 t377.length co17] 24 (0, 0)) (by (with_reducible repeat (first | refine blk_drewN ?_ _ | refine blk_drew ?_ | refine blk_alloc ?_ _)); exact BK374.out) hb); have n5_ := Aside0.mk (below_step (by repeat (first | (with_reducible first | exact HB.out | apply below_alloc | apply pw_below_drewN | apply below_drew1 | refine below_set ?_ GE374.out) | exact HB.out)) hb); clear HO379; clear HO386; clear HO389; clear BK374; clear HB; have HO379 := n0_; have HO386 := n1_; have HO389 := n2_; have HO394 := n3_; have BK374 := n4_; have HB := n5_; clear n0_ n1_ n2_ n3_ n4_ n5_; (try clear hb); (try clear hb2); (try clear hk); (try clear hi); (try clear ho0)) | ((with_reducible refine gate_dst (N := 10) rfl ?_); (try (refine gate_guard (by rfl) ?_; dsimp only)); refine box_event ?hg (N := 10) ?hd (cs := #[.int .i64 0, .slice none 0 0]) (t := 24) ?hr ?_; (case hd => rfl); (case hg => rfl); (case hr => first | (go_simp; done) | (go_simp; rfl)); intro gb396 hg w32 hbox hb; have n0_ := Aside0.mk (Kd.R_below (by (with_reducible repeat (first | apply Kd.R_alloc | apply Kd.R_drewN | apply Kd.R_drew)); exact HO379.out) hb); have n1_ := Aside0.mk (Kd.R_below (by (with_reducible repeat (first | apply Kd.R_alloc | apply Kd.R_drewN | apply Kd.R_drew)); exact HO386.out) hb); have n2_ := Aside0.mk (Kd.R_below (by (with_reducible repeat (first | apply Kd.R_alloc | apply Kd.R_drewN | apply Kd.R_drew)); exact HO389.out) hb); have n3_ := Aside0.mk (Kd.R_below (by (with_reducible repeat (first | apply Kd.R_alloc | apply Kd.R_drewN | apply Kd.R_drew)); exact HO394.out) hb); have n4_ := Aside0.mk (blk_below (g := gb374) (o := .cells #[.int .i64 t376, .slice Ao17 t377.length co17] 24 (0, 0)) (by (with_reducible repeat (first | refine blk_drewN ?_ _ | refine blk_drew ?_ | refine blk_alloc ?_ _)); exact BK374.out) hb); have n5_ := Aside0.mk (below_step (by repeat (first | (with_reducible first | exact HB.out | apply below_alloc | apply pw_below_drewN | apply below_drew1 | refine below_set ?_ GE374.out) | exact HB.out)) hb); have n6_ := Aside0.mk (hbox); have n7_ := Aside0.mk ((by rw [hg]; exact (below_size (by repeat (first | (with_reducible first | exact HB.out | apply below_alloc | apply pw_below_drewN | apply below_drew1 | refine below_set ?_ GE374.out) | exact HB.out))) : w.heap.size ≤ gb396)); have n8_ := Aside0.mk ((by rw [hg]; exact (below_size (by repeat (first | (with_reducible first | exact HB.out | apply below_alloc | apply pw_below_drewN | apply below_drew1 | refine below_set ?_ GE374.out) | exact HB.out))) : w.heap.size ≤ gb396)); have n9_ := Aside0.mk ((by rw [hg]; exact Nat.ne_of_lt (blk_lt (g := gb374) (o := .cells #[.int .i64 t376, .slice Ao17 t377.length co17] 24 (0, 0)) (by (with_reducible repeat (first | refine blk_drewN ?_ _ | refine blk_drew ?_ | refine blk_alloc ?_ _)); exact BK374.out)) : gb374 ≠ gb396)); have n10_ := Aside0.mk ((by rw [hg]; exact Nat.ne_of_gt (blk_lt (g := gb374) (o := .cells #[.int .i64 t376, .slice Ao17 t377.length co17] 24 (0, 0)) (by (with_reducible repeat (first | refine blk_drewN ?_ _ | refine blk_drew ?_ | refine blk_alloc ?_ _)); exact BK374.out)) : gb396 ≠ gb374)); clear HO379; clear HO386; clear HO389; clear HO394; clear BK374; clear HB; have HO379 := n0_; have HO386 := n1_; have HO389 := n2_; have HO394 := n3_; have BK374 := n4_; have HB := n5_; have BK396 := n6_; have GW396 := n7_; have GE396 := n8_; have NB374_396 := n9_; have NB396_374 := n10_; clear n0_ n1_ n2_ n3_ n4_ n5_ n6_ n7_ n8_ n9_ n10_; clear hb hbox hg; have hnb33 := NB396_374.out; have hnc33 := NB374_396.out; have hcz34_0 : w32.cell? ⟨gb396, 0, none⟩ = some (.int .i64 0) := (blk_cell BK396.out 0).trans rfl; have hcz34_1 : w32.cell? ⟨gb396, 1, none⟩ = some (.slice none 0 0) := (blk_cell BK396.out 1).trans rfl; have hfz34_0 := blk_frozen BK396.out 0; have hfz34_1 := blk_frozen BK396.out 1; obtain ⟨Ao35, co35, eo35⟩ := Kd.R_slice HO394.out; subst eo35; have hcz36_0 : w32.cell? ⟨gb374, 0, none⟩ = some (.int .i64 t376) := (blk_cell BK374.out 0).trans rfl; have hcz36_1 : w32.cell? ⟨gb374, 1, none⟩ = some (.slice Ao17 t377.length co17) := (blk_cell BK374.out 1).trans rfl; have hfz36_0 := blk_frozen BK374.out 0; have hfz36_1 := blk_frozen BK374.out 1) | (go_at_call 19; (with_reducible refine (phaetonref24_Same.calls t391 _ _ t392 t376 _ _ t377 true _ ?side1 ?side2 ?side3 ?side4 A27.out).mono ?_); (case side1 => refine (Kd.R_reads' (e := 5) (base := w.heap.size) (ok := fun k_ => (((True ∧ some k_ ≠ (.slice Ao17 t377.length co17 : Value).ownBlock) ∧ some k_ ≠ (v385 : Value).ownBlock) ∧ some k_ ≠ (.slice Ao30 t387.length co30 : Value).ownBlock)) (n := t392.length) (c := co35) ?_).2.2; exact (by (with_reducible repeat (first | apply Kd.R_alloc | apply Kd.R_drewN | apply Kd.R_drew)); exact (Kd.R_mono (Kd.R_far (p := ⟨gb396, 1, none⟩) (Kd.R_far (p := ⟨gb396, 0, none⟩) (Kd.R_types HO394.out BK396.out (by decide)) (fun _ hk => hk.2) (.int .i64 t391)) (fun _ hk => hk.2) (.slice Ao35 t392.length co35)) (fun _ h_ => h_.1)))); (case side2 => exact (Kd.R_reads' HO394.out).2.1); (case side3 => refine (Kd.R_reads' (e := 5) (base := w.heap.size) (ok := fun k_ => (((True ∧ some k_ ≠ (v385 : Value).ownBlock) ∧ some k_ ≠ (.slice Ao30 t387.length co30 : Value).ownBlock) ∧ some k_ ≠ (.slice Ao35 t392.length co35 : Value).ownBlock)) (n := t377.length) (c := co17) ?_).2.2; exact (by (with_reducible repeat (first | apply Kd.R_alloc | apply Kd.R_drewN | apply Kd.R_drew)); exact (Kd.R_mono (Kd.R_far (p := ⟨gb396, 1, none⟩) (Kd.R_far (p := ⟨gb396, 0, none⟩) (Kd.R_types HO379.out BK396.out (by decide)) (fun _ hk => hk.2) (.int .i64 t391)) (fun _ hk => hk.2) (.slice Ao35 t392.length co35)) (fun _ h_ => h_.1)))); (case side4 => exact (Kd.R_reads' HO379.out).2.1); rintro e w37 ⟨rfl, hb⟩; have n0_ := Aside0.mk (Kd.R_below (by (with_reducible repeat (first | apply Kd.R_alloc | apply Kd.R_drewN | apply Kd.R_drew)); exact (Kd.R_mono (Kd.R_far (p := ⟨gb396, 1, none⟩) (Kd.R_far (p := ⟨gb396, 0, none⟩) (Kd.R_types HO379.out BK396.out (by decide)) (fun _ hk => hk.2) (.int .i64 t391)) (fun _ hk => hk.2) (.slice Ao35 t392.length co35)) (fun _ h_ => h_.1))) hb); have n1_ := Aside0.mk (Kd.R_below (by (with_reducible repeat (first | apply Kd.R_alloc | apply Kd.R_drewN | apply Kd.R_drew)); exact (Kd.R_mono (Kd.R_far (p := ⟨gb396, 1, none⟩) (Kd.R_far (p := ⟨gb396, 0, none⟩) (Kd.R_types HO386.out BK396.out (by decide)) (fun _ hk => hk.2) (.int .i64 t391)) (fun _ hk => hk.2) (.slice Ao35 t392.length co35)) (fun _ h_ => h_.1))) hb); have n2_ := Aside0.mk (Kd.R_below (by (with_reducible repeat (first | apply Kd.R_alloc | apply Kd.R_drewN | apply Kd.R_drew)); exact (Kd.R_mono (Kd.R_far (p := ⟨gb396, 1, none⟩) (Kd.R_far (p := ⟨gb396, 0, none⟩) (Kd.R_types HO389.out BK396.out (by decide)) (fun _ hk => hk.2) (.int .i64 t391)) (fun _ hk => hk.2) (.slice Ao35 t392.length co35)) (fun _ h_ => h_.1))) hb); have n3_ := Aside0.mk (Kd.R_below (by (with_reducible repeat (first | apply Kd.R_alloc | apply Kd.R_drewN | apply Kd.R_drew)); exact (Kd.R_mono (Kd.R_far (p := ⟨gb396, 1, none⟩) (Kd.R_far (p := ⟨gb396, 0, none⟩) (Kd.R_types HO394.out BK396.out (by decide)) (fun _ hk => hk.2) (.int .i64 t391)) (fun _ hk => hk.2) (.slice Ao35 t392.length co35)) (fun _ h_ => h_.1))) hb); have n4_ := Aside0.mk (blk_below (g := gb374) (o := .cells #[.int .i64 t376, .slice Ao17 t377.length co17] 24 (0, 0)) (by (with_reducible repeat (first | refine blk_drewN ?_ _ | refine blk_drew ?_ | refine blk_alloc ?_ _)); refine blk_far ?_ NB374_396.out _; (with_reducible repeat (first | refine blk_drewN ?_ _ | refine blk_drew ?_ | refine blk_alloc ?_ _)); refine blk_far ?_ NB374_396.out _; (with_reducible repeat (first | refine blk_drewN ?_ _ | refine blk_drew ?_ | refine blk_alloc ?_ _)); exact BK374.out) hb); have n5_ := Aside0.mk (blk_below (g := gb396) (o := .cells #[.int .i64 t391, .slice Ao35 t392.length co35] 24 (0, 0)) (by (with_reducible repeat (first | refine blk_drewN ?_ _ | refine blk_drew ?_ | refine blk_alloc ?_ _)); refine blk_put (cs := #[.int .i64 t391, .slice none 0 0]) ?_ 1 _ rfl; (with_reducible repeat (first | refine blk_drewN ?_ _ | refine blk_drew ?_ | refine blk_alloc ?_ _)); refine blk_put (cs := #[.int .i64 0, .slice none 0 0]) ?_ 0 _ rfl; (with_reducible repeat (first | refine blk_drewN ?_ _ | refine blk_drew ?_ | refine blk_alloc ?_ _)); exact BK396.out) hb); have n6_ := Aside0.mk (below_step (by repeat (first | (with_reducible first | exact HB.out | apply below_alloc | apply pw_below_drewN | apply below_drew1 | refine below_set ?_ GE374.out | refine below_set ?_ GE396.out) | exact HB.out)) hb); clear HO379; clear HO386; clear HO389; clear HO394; clear BK374; clear BK396; clear HB; have HO379 := n0_; have HO386 := n1_; have HO389 := n2_; have HO394 := n3_; have BK374 := n4_; have BK396 := n5_; have HB := n6_; clear n0_ n1_ n2_ n3_ n4_ n5_ n6_; (try clear hb); (try clear hb2); (try clear hk); (try clear hi); have hcz38_0 : w37.cell? ⟨gb374, 0, none⟩ = some (.int .i64 t376) := (blk_cell BK374.out 0).trans rfl; have hcz38_1 : w37.cell? ⟨gb374, 1, none⟩ = some (.slice Ao17 t377.length co17) := (blk_cell BK374.out 1).trans rfl; have hfz38_0 := blk_frozen BK374.out 0; have hfz38_1 := blk_frozen BK374.out 1))
                  go_meet
                  case rel => exact ⟨_, H', ⟨by first | omega | exact Nat.le_refl _⟩, ⟨by (with_reducible repeat (first | apply Kd.R_alloc | apply Kd.R_drewN | apply Kd.R_drew)); exact Kd.R_mono HO386.out (fun _ hk => hk.1.1)⟩, ⟨by (with_reducible repeat (first | apply Kd.R_alloc | apply Kd.R_drewN | apply Kd.R_drew)); exact Kd.R_mono HO379.out (fun _ hk => hk.1.1.2)⟩, ⟨by (with_reducible repeat (first | refine blk_drewN ?_ _ | refine blk_drew ?_ | refine blk_alloc ?_ _)); exact BK374.out⟩, ⟨by repeat (first | (with_reducible first | exact HB.out | apply below_alloc | apply pw_below_drewN | apply below_drew1 | refine below_set ?_ GE374.out | refine below_set ?_ GE396.out) | exact HB.out)⟩⟩
                · rw [if_neg c29] at H
                  exact absurd H (by simp)
              · replace c28 := Bool.eq_false_iff.mpr c28
                subst c28
                have H1 : (none) = some r := by rw [if_neg (show ¬ (false = true) by decide)] at H; exact H
                clear H
                have H := H1
                clear H1
                exact absurd H (by simp)
            · rw [if_neg c26] at H
              exact absurd H (by simp)
          · replace c24 := Bool.eq_false_iff.mpr c24
            subst c24
            have H1 : (phaetonlaw24_ImageBack.j0 k y384 a2 t375 false t376 t377) = some r := by rw [if_neg (show ¬ (false = true) by decide)] at H; exact H
            clear H
            have H := H1
            clear H1
            have H' := Aside0.mk H
            clear H
            go_wp2
            go_meet
            case rel => exact ⟨_, H', ⟨by first | omega | exact Nat.le_refl _⟩, ⟨by (with_reducible repeat (first | apply Kd.R_alloc | apply Kd.R_drewN | apply Kd.R_drew)); exact Kd.R_mono HO386.out (fun _ hk => hk.1)⟩, ⟨by (with_reducible repeat (first | apply Kd.R_alloc | apply Kd.R_drewN | apply Kd.R_drew)); exact Kd.R_mono HO379.out (fun _ hk => hk.1.2)⟩, ⟨by (with_reducible repeat (first | refine blk_drewN ?_ _ | refine blk_drew ?_ | refine blk_alloc ?_ _)); exact BK374.out⟩, ⟨by repeat (first | (with_reducible first | exact HB.out | apply below_alloc | apply pw_below_drewN | apply below_drew1 | refine below_set ?_ GE374.out) | exact HB.out)⟩⟩
        case rest =>
          clear HC11
          try clear c1
          try clear c2
          try clear p2
          try clear c3
          try clear c4
          try clear p6
          try clear c7
          try clear c7b0
          try clear c7b1
          try clear c8
          try clear c8b0
          try clear c8b1
          try clear c9
          try clear c11
          try clear c12
          try clear c13
          try clear c15
          try clear c24
          try clear c26
          try clear c26b0
          try clear c26b1
          try clear c28
          try clear c29
          try clear c29b0
          try clear c29b1
          try clear c33
          try clear hcz14_0
          try clear hcz14_1
          try clear hcz16_0
          try clear hcz16_1
          try clear hcz22_0
          try clear hcz22_1
          try clear hcz34_0
          try clear hcz34_1
          try clear hcz36_0
          try clear hcz36_1
          try clear hcz38_0
          try clear hcz38_1
          try clear hfz14_0
          try clear hfz14_1
          try clear hfz16_0
          try clear hfz16_1
          try clear hfz22_0
          try clear hfz22_1
          try clear hfz34_0
          try clear hfz34_1
          try clear hfz36_0
          try clear hfz36_1
          try clear hfz38_0
          try clear hfz38_1
          obtain ⟨kq, HA, HJ10, HO_1, HO_375001, BK374, HB⟩ := hcut
          cases kq with
          | zero => exact absurd HA.out (by simp [phaetonlaw24_ImageBack.j0])
          | succ kj10 =>
            have H := HA.out
            clear HA
            simp only [phaetonlaw24_ImageBack.j0] at H
            replace H := Option.bind_eq_some_iff.mp H
            obtain ⟨⟨t398, t399, t402⟩, A390, H⟩ := H
            replace H : (if t402 = 0 then ((image_Pack.f kj10 t398 t399 a2).bind fun bt404 => (if bt404.2 = true then (if (strOfNums bt404.1).toList = (strOfNums y384).toList then ((image_Right.f t398 t399).bind fun t408 => (if t408 = true then (if t375 = true then (some true) else (none)) else (none))) else (none)) else (none))) else ((phaetonref24_Same.f t398 t399 0 ([] : List Int)).bind fun t409 => (if t409 = true then ((image_Right.f t376 t377).bind fun t410 => (if t410 = true then ((phaetonref24_May.f a2).bind fun t411 => (if (t390 == t411) = true then (if t375 = true then (some true) else (none)) else (none))) else (if (t390 == false) = true then (if t375 = true then (some true) else (none)) else (none)))) else (none)))) = some r := H
            have A39 := Aside0.mk A390
            clear A390
            by_cases c40 : t402 = 0
            · rw [if_pos c40] at H
              have c40b0 : (t402 == 0) = true := beq_iff_eq.mpr c40
              have c40b1 : (t402 != 0) = false := bne_eq_false_iff_eq.mpr c40
              clear c40
              replace H := Option.bind_eq_some_iff.mp H
              obtain ⟨⟨t404, t407⟩, A410, H⟩ := H
              replace H : (if t407 = true then (if (strOfNums t404).toList = (strOfNums y384).toList then ((image_Right.f t398 t399).bind fun t408 => (if t408 = true then (if t375 = true then (some true) else (none)) else (none))) else (none)) else (none)) = some r := H
              have A41 := Aside0.mk A410
              clear A410
              by_cases c42 : t407 = true
              · subst c42
                have H1 : (if (strOfNums t404).toList = (strOfNums y384).toList then ((image_Right.f t398 t399).bind fun t408 => (if t408 = true then (if t375 = true then (some true) else (none)) else (none))) else (none)) = some r := by rw [if_pos rfl] at H; exact H
                clear H
                have H := H1
                clear H1
                by_cases c43 : (strOfNums t404).toList = (strOfNums y384).toList
                · rw [if_pos c43] at H
                  have c43b0 : ((strOfNums t404).toList == (strOfNums y384).toList) = true := beq_iff_eq.mpr c43
                  have c43b1 : ((strOfNums t404).toList != (strOfNums y384).toList) = false := bne_eq_false_iff_eq.mpr c43
                  clear c43
                  replace H := Option.bind_eq_some_iff.mp H
                  obtain ⟨t408, A440, H⟩ := H
                  replace H : (if t408 = true then (if t375 = true then (some true) else (none)) else (none)) = some r := H
                  have A44 := Aside0.mk A440
                  clear A440
                  by_cases c45 : t408 = true
                  · subst c45
                    have H1 : (if t375 = true then (some true) else (none)) = some r := by rw [if_pos rfl] at H; exact H
                    clear H
                    have H := H1
                    clear H1
                    by_cases c46 : t375 = true
                    · subst c46
                      have H1 : (some true) = some r := by rw [if_pos rfl] at H; exact H
                      clear H
                      have H := H1
                      clear H1
                      obtain rfl := Option.some.inj H
                      obtain ⟨Ao47, co47, eo47⟩ := Kd.R_slice HO_1.out
                      subst eo47
                      go_wp2_with (first | ((with_reducible refine gate_store (t := 24) (p := 12) rfl ?_); refine HW.store_box2 rfl rfl 24 _ _ rfl rfl rfl BK403.out rfl (by kernel_rfl) (by intro q hq; simp only [List.mem_cons, List.not_mem_nil, or_false] at hq; rcases hq with rfl | rfl <;> rfl) ?_; intro w1_ hw1_ hk1_; simp only [List.toList_toArray, World.setCells, Nat.zero_add, Nat.reduceAdd] at hw1_; subst hw1_; have hcb403_0 := (blk_cell hk1_ 0).trans rfl; have hfb403_0 := blk_frozen hk1_ 0; have hcb403_1 := (blk_cell hk1_ 1).trans rfl; have hfb403_1 := blk_frozen hk1_ 1; clear hk1_) | ((with_reducible refine gate_store (t := 24) (p := 3) rfl ?_); refine HW.store_box2 rfl rfl 24 _ _ rfl rfl rfl BK374.out rfl (by kernel_rfl) (by intro q hq; simp only [List.mem_cons, List.not_mem_nil, or_false] at hq; rcases hq with rfl | rfl <;> rfl) ?_; intro w1_ hw1_ hk1_; simp only [List.toList_toArray, World.setCells, Nat.zero_add, Nat.reduceAdd] at hw1_; subst hw1_; have hcb374_0 := (blk_cell hk1_ 0).trans rfl; have hfb374_0 := blk_frozen hk1_ 0; have hcb374_1 := (blk_cell hk1_ 1).trans rfl; have hfb374_1 := blk_frozen hk1_ 1; clear hk1_) | ((with_reducible refine gate_callee (f := 15) rfl ?_); refine goesL_ (some 59) rfl rfl Try.func15 (by kernel_rfl) rfl #[.slice Ao47 y384.length co47, .int .i64 a2] rfl (by (try simp only [List.map_toArray, List.map_cons, List.map_nil]); first | done | rfl | (simp only [List.length_drop, List.length_take]; rfl)) ?_; (with_reducible refine (image_Read.calls kj10 _ _ y384 a2 t398 t399 t402 _ ?side1 ?side2 A39.out).mono ?_); (case side1 => repeat (first | exact (Kd.R_reads' HO_1.out).2.2 | (with_reducible refine Kd.C_alloc ?_ _) | (with_reducible refine Kd.C_drewN ?_ _) | (with_reducible refine Kd.C_drew ?_))); (case side2 => exact (Kd.R_reads' HO_1.out).2.1); rintro e w48 ⟨v400, rfl, ho0, hb⟩; refine ⟨_, rfl, ?_⟩; have n0_ := Aside0.mk (Kd.R_elder' (by (with_reducible repeat (first | apply Kd.R_alloc | apply Kd.R_drewN | apply Kd.R_drew)); exact HO_1.out) (Kd.R_base ho0) hb); have n1_ := Aside0.mk (Kd.R_elder' (by (with_reducible repeat (first | apply Kd.R_alloc | apply Kd.R_drewN | apply Kd.R_drew)); exact HO_375001.out) (Kd.R_base ho0) hb); have n2_ := Aside0.mk (Kd.R_lower (Kd.R_new' (Kd.R_new' ho0 (Kd.R_lt (by (with_reducible repeat (first | apply Kd.R_alloc | apply Kd.R_drewN | apply Kd.R_drew)); exact HO_1.out))) (Kd.R_lt (by (with_reducible repeat (first | apply Kd.R_alloc | apply Kd.R_drewN | apply Kd.R_drew)); exact HO_375001.out))) (below_size (by repeat (first | (with_reducible first | exact HB.out | apply below_alloc | apply pw_below_drewN | apply below_drew1 | refine below_set ?_ GE374.out) | exact HB.out)))); have n3_ := Aside0.mk (blk_below (g := gb374) (o := .cells #[.int .i64 t376, .slice Ao17 t377.length co17] 24 (0, 0)) (by (with_reducible repeat (first | refine blk_drewN ?_ _ | refine blk_drew ?_ | refine blk_alloc ?_ _)); exact BK374.out) hb); have n4_ := Aside0.mk (below_step (by repeat (first | (with_reducible first | exact HB.out | apply below_alloc | apply pw_below_drewN | apply below_drew1 | refine below_set ?_ GE374.out) | exact HB.out)) hb); clear HO_1; clear HO_375001; clear BK374; clear HB; have HO_1 := n0_; have HO_375001 := n1_; have HO401 := n2_; have BK374 := n3_; have HB := n4_; clear n0_ n1_ n2_ n3_ n4_; (try clear hb); (try clear hb2); (try clear hk); (try clear hi); (try clear ho0)) | ((with_reducible refine gate_dst (N := 12) rfl ?_); (try (refine gate_guard (by rfl) ?_; dsimp only)); refine box_event ?hg (N := 12) ?hd (cs := #[.int .i64 0, .slice none 0 0]) (t := 24) ?hr ?_; (case hd => rfl); (case hg => rfl); (case hr => first | (go_simp; done) | (go_simp; rfl)); intro gb403 hg w49 hbox hb; have n0_ := Aside0.mk (Kd.R_below (by (with_reducible repeat (first | apply Kd.R_alloc | apply Kd.R_drewN | apply Kd.R_drew)); exact HO_1.out) hb); have n1_ := Aside0.mk (Kd.R_below (by (with_reducible repeat (first | apply Kd.R_alloc | apply Kd.R_drewN | apply Kd.R_drew)); exact HO_375001.out) hb); have n2_ := Aside0.mk (Kd.R_below (by (with_reducible repeat (first | apply Kd.R_alloc | apply Kd.R_drewN | apply Kd.R_drew)); exact HO401.out) hb); have n3_ := Aside0.mk (blk_below (g := gb374) (o := .cells #[.int .i64 t376, .slice Ao17 t377.length co17] 24 (0, 0)) (by (with_reducible repeat (first | refine blk_drewN ?_ _ | refine blk_drew ?_ | refine blk_alloc ?_ _)); exact BK374.out) hb); have n4_ := Aside0.mk (below_step (by repeat (first | (with_reducible first | exact HB.out | apply below_alloc | apply pw_below_drewN | apply below_drew1 | refine below_set ?_ GE374.out) | exact HB.out)) hb); have n5_ := Aside0.mk (hbox); have n6_ := Aside0.mk ((by rw [hg]; exact (below_size (by repeat (first | (with_reducible first | exact HB.out | apply below_alloc | apply pw_below_drewN | apply below_drew1 | refine below_set ?_ GE374.out) | exact HB.out))) : w.heap.size ≤ gb403)); have n7_ := Aside0.mk ((by rw [hg]; exact (below_size (by repeat (first | (with_reducible first | exact HB.out | apply below_alloc | apply pw_below_drewN | apply below_drew1 | refine below_set ?_ GE374.out) | exact HB.out))) : w.heap.size ≤ gb403)); have n8_ := Aside0.mk ((by rw [hg]; exact Nat.ne_of_lt (blk_lt (g := gb374) (o := .cells #[.int .i64 t376, .slice Ao17 t377.length co17] 24 (0, 0)) (by (with_reducible repeat (first | refine blk_drewN ?_ _ | refine blk_drew ?_ | refine blk_alloc ?_ _)); exact BK374.out)) : gb374 ≠ gb403)); have n9_ := Aside0.mk ((by rw [hg]; exact Nat.ne_of_gt (blk_lt (g := gb374) (o := .cells #[.int .i64 t376, .slice Ao17 t377.length co17] 24 (0, 0)) (by (with_reducible repeat (first | refine blk_drewN ?_ _ | refine blk_drew ?_ | refine blk_alloc ?_ _)); exact BK374.out)) : gb403 ≠ gb374)); clear HO_1; clear HO_375001; clear HO401; clear BK374; clear HB; have HO_1 := n0_; have HO_375001 := n1_; have HO401 := n2_; have BK374 := n3_; have HB := n4_; have BK403 := n5_; have GW403 := n6_; have GE403 := n7_; have NB374_403 := n8_; have NB403_374 := n9_; clear n0_ n1_ n2_ n3_ n4_ n5_ n6_ n7_ n8_ n9_; clear hb hbox hg; have hnb50 := NB403_374.out; have hnc50 := NB374_403.out; have hcz51_0 : w49.cell? ⟨gb403, 0, none⟩ = some (.int .i64 0) := (blk_cell BK403.out 0).trans rfl; have hcz51_1 : w49.cell? ⟨gb403, 1, none⟩ = some (.slice none 0 0) := (blk_cell BK403.out 1).trans rfl; have hfz51_0 := blk_frozen BK403.out 0; have hfz51_1 := blk_frozen BK403.out 1; obtain ⟨Ao52, co52, eo52⟩ := Kd.R_slice HO401.out; subst eo52) | ((with_reducible refine gate_callee (f := 13) rfl ?_); refine goesL_ (some 83) rfl rfl Try.func13 (by kernel_rfl) rfl #[.agg #[.int .i64 t398, .slice Ao52 t399.length co52], .int .i64 a2] rfl (by (try simp only [List.map_toArray, List.map_cons, List.map_nil]); first | done | rfl | (simp only [List.length_drop, List.length_take]; rfl)) ?_; (with_reducible refine (image_Pack.calls kj10 t398 _ _ t399 a2 t404 true _ ?side1 ?side2 A41.out).mono ?_); (case side1 => refine (Kd.R_reads' (e := 5) (base := w.heap.size) (ok := fun k_ => ((True ∧ some k_ ≠ (.slice Ao47 y384.length co47 : Value).ownBlock) ∧ some k_ ≠ (.slice Ao17 t377.length co17 : Value).ownBlock)) (n := t399.length) (c := co52) ?_).2.2; exact (by (with_reducible repeat (first | apply Kd.R_alloc | apply Kd.R_drewN | apply Kd.R_drew)); exact (Kd.R_mono (Kd.R_far (p := ⟨gb403, 1, none⟩) (Kd.R_far (p := ⟨gb403, 0, none⟩) (Kd.R_types HO401.out BK403.out (by decide)) (fun _ hk => hk.2) (.int .i64 t398)) (fun _ hk => hk.2) (.slice Ao52 t399.length co52)) (fun _ h_ => h_.1)))); (case side2 => exact (Kd.R_reads' HO401.out).2.1); rintro e w53 ⟨v405, rfl, ho0, hb⟩; refine ⟨_, rfl, ?_⟩; have n0_ := Aside0.mk (Kd.R_elder' (by (with_reducible repeat (first | apply Kd.R_alloc | apply Kd.R_drewN | apply Kd.R_drew)); exact (Kd.R_mono (Kd.R_far (p := ⟨gb403, 1, none⟩) (Kd.R_far (p := ⟨gb403, 0, none⟩) (Kd.R_types HO_1.out BK403.out (by decide)) (fun _ hk => hk.2) (.int .i64 t398)) (fun _ hk => hk.2) (.slice Ao52 t399.length co52)) (fun _ h_ => h_.1))) (Kd.R_base ho0) hb); have n1_ := Aside0.mk (Kd.R_elder' (by (with_reducible repeat (first | apply Kd.R_alloc | apply Kd.R_drewN | apply Kd.R_drew)); exact (Kd.R_mono (Kd.R_far (p := ⟨gb403, 1, none⟩) (Kd.R_far (p := ⟨gb403, 0, none⟩) (Kd.R_types HO_375001.out BK403.out (by decide)) (fun _ hk => hk.2) (.int .i64 t398)) (fun _ hk => hk.2) (.slice Ao52 t399.length co52)) (fun _ h_ => h_.1))) (Kd.R_base ho0) hb); have n2_ := Aside0.mk (Kd.R_elder' (by (with_reducible repeat (first | apply Kd.R_alloc | apply Kd.R_drewN | apply Kd.R_drew)); exact (Kd.R_mono (Kd.R_far (p := ⟨gb403, 1, none⟩) (Kd.R_far (p := ⟨gb403, 0, none⟩) (Kd.R_types HO401.out BK403.out (by decide)) (fun _ hk => hk.2) (.int .i64 t398)) (fun _ hk => hk.2) (.slice Ao52 t399.length co52)) (fun _ h_ => h_.1))) (Kd.R_base ho0) hb); have n3_ := Aside0.mk (Kd.R_lower (Kd.R_new' (Kd.R_new' (Kd.R_new' ho0 (Kd.R_lt (by (with_reducible repeat (first | apply Kd.R_alloc | apply Kd.R_drewN | apply Kd.R_drew)); exact (Kd.R_mono (Kd.R_far (p := ⟨gb403, 1, none⟩) (Kd.R_far (p := ⟨gb403, 0, none⟩) (Kd.R_types HO_1.out BK403.out (by decide)) (fun _ hk => hk.2) (.int .i64 t398)) (fun _ hk => hk.2) (.slice Ao52 t399.length co52)) (fun _ h_ => h_.1))))) (Kd.R_lt (by (with_reducible repeat (first | apply Kd.R_alloc | apply Kd.R_drewN | apply Kd.R_drew)); exact (Kd.R_mono (Kd.R_far (p := ⟨gb403, 1, none⟩) (Kd.R_far (p := ⟨gb403, 0, none⟩) (Kd.R_types HO_375001.out BK403.out (by decide)) (fun _ hk => hk.2) (.int .i64 t398)) (fun _ hk => hk.2) (.slice Ao52 t399.length co52)) (fun _ h_ => h_.1))))) (Kd.R_lt (by (with_reducible repeat (first | apply Kd.R_alloc | apply Kd.R_drewN | apply Kd.R_drew)); exact (Kd.R_mono (Kd.R_far (p := ⟨gb403, 1, none⟩) (Kd.R_far (p := ⟨gb403, 0, none⟩) (Kd.R_types HO401.out BK403.out (by decide)) (fun _ hk => hk.2) (.int .i64 t398)) (fun _ hk => hk.2) (.slice Ao52 t399.length co52)) (fun _ h_ => h_.1))))) (below_size (by repeat (first | (with_reducible first | exact HB.out | apply below_alloc | apply pw_below_drewN | apply below_drew1 | refine below_set ?_ GE374.out | refine below_set ?_ GE403.out) | exact HB.out)))); have n4_ := Aside0.mk (blk_below (g := gb374) (o := .cells #[.int .i64 t376, .slice Ao17 t377.length co17] 24 (0, 0)) (by (with_reducible repeat (first | refine blk_drewN ?_ _ | refine blk_drew ?_ | refine blk_alloc ?_ _)); refine blk_far ?_ NB374_403.out _; (with_reducible repeat (first | refine blk_drewN ?_ _ | refine blk_drew ?_ | refine blk_alloc ?_ _)); refine blk_far ?_ NB374_403.out _; (with_reducible repeat (first | refine blk_drewN ?_ _ | refine blk_drew ?_ | refine blk_alloc ?_ _)); exact BK374.out) hb); have n5_ := Aside0.mk (blk_below (g := gb403) (o := .cells #[.int .i64 t398, .slice Ao52 t399.length co52] 24 (0, 0)) (by (with_reducible repeat (first | refine blk_drewN ?_ _ | refine blk_drew ?_ | refine blk_alloc ?_ _)); refine blk_put (cs := #[.int .i64 t398, .slice none 0 0]) ?_ 1 _ rfl; (with_reducible repeat (first | refine blk_drewN ?_ _ | refine blk_drew ?_ | refine blk_alloc ?_ _)); refine blk_put (cs := #[.int .i64 0, .slice none 0 0]) ?_ 0 _ rfl; (with_reducible repeat (first | refine blk_drewN ?_ _ | refine blk_drew ?_ | refine blk_alloc ?_ _)); exact BK403.out) hb); have n6_ := Aside0.mk (below_step (by repeat (first | (with_reducible first | exact HB.out | apply below_alloc | apply pw_below_drewN | apply below_drew1 | refine below_set ?_ GE374.out | refine below_set ?_ GE403.out) | exact HB.out)) hb); clear HO_1; clear HO_375001; clear HO401; clear BK374; clear BK403; clear HB; have HO_1 := n0_; have HO_375001 := n1_; have HO401 := n2_; have HO406 := n3_; have BK374 := n4_; have BK403 := n5_; have HB := n6_; clear n0_ n1_ n2_ n3_ n4_ n5_ n6_; (try clear hb); (try clear hb2); (try clear hk); (try clear hi); (try clear ho0); have hcv54 := own_string (P := Try.prog) Try.underlying22 Try.underlying5 Try.underlying9 (Kd.own_of_R HO406.out); have hcv55 := own_string (P := Try.prog) Try.underlying22 Try.underlying5 Try.underlying9 (Kd.own_of_R HO_1.out); have hcz56_0 : w53.cell? ⟨gb403, 0, none⟩ = some (.int .i64 t398) := (blk_cell BK403.out 0).trans rfl; have hcz56_1 : w53.cell? ⟨gb403, 1, none⟩ = some (.slice Ao52 t399.length co52) := (blk_cell BK403.out 1).trans rfl; have hfz56_0 := blk_frozen BK403.out 0; have hfz56_1 := blk_frozen BK403.out 1) | (go_at_call 17; (with_reducible refine (image_Right.calls t398 _ _ t399 true _ ?side1 ?side2 A44.out).mono ?_); (case side1 => repeat (first | exact (Kd.R_reads' HO401.out).2.2 | (with_reducible refine Kd.C_alloc ?_ _) | (with_reducible refine Kd.C_drewN ?_ _) | (with_reducible refine Kd.C_drew ?_))); (case side2 => exact (Kd.R_reads' HO401.out).2.1); rintro e w57 ⟨rfl, hb⟩; have n0_ := Aside0.mk (Kd.R_below (by (with_reducible repeat (first | apply Kd.R_alloc | apply Kd.R_drewN | apply Kd.R_drew)); exact HO_1.out) hb); have n1_ := Aside0.mk (Kd.R_below (by (with_reducible repeat (first | apply Kd.R_alloc | apply Kd.R_drewN | apply Kd.R_drew)); exact HO_375001.out) hb); have n2_ := Aside0.mk (Kd.R_below (by (with_reducible repeat (first | apply Kd.R_alloc | apply Kd.R_drewN | apply Kd.R_drew)); exact HO401.out) hb); have n3_ := Aside0.mk (Kd.R_below (by (with_reducible repeat (first | apply Kd.R_alloc | apply Kd.R_drewN | apply Kd.R_drew)); exact HO406.out) hb); have n4_ := Aside0.mk (blk_below (g := gb374) (o := .cells #[.int .i64 t376, .slice Ao17 t377.length co17] 24 (0, 0)) (by (with_reducible repeat (first | refine blk_drewN ?_ _ | refine blk_drew ?_ | refine blk_alloc ?_ _)); exact BK374.out) hb); have n5_ := Aside0.mk (blk_below (g := gb403) (o := .cells #[.int .i64 t398, .slice Ao52 t399.length co52] 24 (0, 0)) (by (with_reducible repeat (first | refine blk_drewN ?_ _ | refine blk_drew ?_ | refine blk_alloc ?_ _)); exact BK403.out) hb); have n6_ := Aside0.mk (below_step (by repeat (first | (with_reducible first | exact HB.out | apply below_alloc | apply pw_below_drewN | apply below_drew1 | refine below_set ?_ GE374.out | refine below_set ?_ GE403.out) | exact HB.out)) hb); clear HO_1; clear HO_375001; clear HO401; clear HO406; clear BK374; clear BK403; clear HB; have HO_1 := n0_; have HO_375001 := n1_; have HO401 := n2_; have HO406 := n3_; have BK374 := n4_; have BK403 := n5_; have HB := n6_; clear n0_ n1_ n2_ n3_ n4_ n5_ n6_; (try clear hb); (try clear hb2); (try clear hk); (try clear hi)))
                      go_ret
                      exact ⟨by first | rfl | (simp [errW_none, errW_some] <;> rfl) | (simp only [← hji6]; first | rfl | (simp [errW_none, errW_some] <;> rfl)) | (simp [*, errW_none, errW_some] <;> rfl), by repeat (first | (with_reducible first | exact HB.out | apply below_alloc | apply pw_below_drewN | apply below_drew1 | refine below_set ?_ GE374.out | refine below_set ?_ GE403.out) | exact HB.out)⟩
                    · replace c46 := Bool.eq_false_iff.mpr c46
                      subst c46
                      have H1 : (none) = some r := by rw [if_neg (show ¬ (false = true) by decide)] at H; exact H
                      clear H
                      have H := H1
                      clear H1
                      exact absurd H (by simp)
                  · replace c45 := Bool.eq_false_iff.mpr c45
                    subst c45
                    have H1 : (none) = some r := by rw [if_neg (show ¬ (false = true) by decide)] at H; exact H
                    clear H
                    have H := H1
                    clear H1
                    exact absurd H (by simp)
                · rw [if_neg c43] at H
                  exact absurd H (by simp)
              · replace c42 := Bool.eq_false_iff.mpr c42
                subst c42
                have H1 : (none) = some r := by rw [if_neg (show ¬ (false = true) by decide)] at H; exact H
                clear H
                have H := H1
                clear H1
                exact absurd H (by simp)
            · rw [if_neg c40] at H
              have c40b0 : (t402 == 0) = false := beq_eq_false_iff_ne.mpr c40
              have c40b1 : (t402 != 0) = true := bne_iff_ne.mpr c40
              replace H := Option.bind_eq_some_iff.mp H
              obtain ⟨t409, A580, H⟩ := H
              replace H : (if t409 = true then ((image_Right.f t376 t377).bind fun t410 => (if t410 = true then ((phaetonref24_May.f a2).bind fun t411 => (if (t390 == t411) = true then (if t375 = true then (some true) else (none)) else (none))) else (if (t390 == false) = true then (if t375 = true then (some true) else (none)) else (none)))) else (none)) = some r := H
              have A58 := Aside0.mk A580
              clear A580
              by_cases c59 : t409 = true
              · subst c59
                have H1 : ((image_Right.f t376 t377).bind fun t410 => (if t410 = true then ((phaetonref24_May.f a2).bind fun t411 => (if (t390 == t411) = true then (if t375 = true then (some true) else (none)) else (none))) else (if (t390 == false) = true then (if t375 = true then (some true) else (none)) else (none)))) = some r := by rw [if_pos rfl] at H; exact H
                clear H
                have H := H1
                clear H1
                replace H := Option.bind_eq_some_iff.mp H
                obtain ⟨t410, A600, H⟩ := H
                replace H : (if t410 = true then ((phaetonref24_May.f a2).bind fun t411 => (if (t390 == t411) = true then (if t375 = true then (some true) else (none)) else (none))) else (if (t390 == false) = true then (if t375 = true then (some true) else (none)) else (none))) = some r := H
                have A60 := Aside0.mk A600
                clear A600
                by_cases c61 : t410 = true
                · subst c61
                  have H1 : ((phaetonref24_May.f a2).bind fun t411 => (if (t390 == t411) = true then (if t375 = true then (some true) else (none)) else (none))) = some r := by rw [if_pos rfl] at H; exact H
                  clear H
                  have H := H1
                  clear H1
                  replace H := Option.bind_eq_some_iff.mp H
                  obtain ⟨t411, A620, H⟩ := H
                  replace H : (if (t390 == t411) = true then (if t375 = true then (some true) else (none)) else (none)) = some r := H
                  have A62 := Aside0.mk A620
                  clear A620
                  by_cases c63 : (t390 == t411) = true
                  · rw [if_pos c63] at H
                    have c63b0 : (t390 == t411) = true := c63
                    (try (have c63b1 : decide (t390 = t411) = true := by simpa using c63))
                    (try (have c63b2 : (t390 == t411) = true := by simpa using c63))
                    clear c63
                    by_cases c64 : t375 = true
                    · subst c64
                      have H1 : (some true) = some r := by rw [if_pos rfl] at H; exact H
                      clear H
                      have H := H1
                      clear H1
                      obtain rfl := Option.some.inj H
                      obtain ⟨Ao65, co65, eo65⟩ := Kd.R_slice HO_1.out
                      subst eo65
                      go_wp2_with (first | ((with_reducible refine gate_store (t := 24) (p := 12) rfl ?_); refine HW.store_box2 rfl rfl 24 _ _ rfl rfl rfl BK403.out rfl (by kernel_rfl) (by intro q hq; simp only [List.mem_cons, List.not_mem_nil, or_false] at hq; rcases hq with rfl | rfl <;> rfl) ?_; intro w1_ hw1_ hk1_; simp only [List.toList_toArray, World.setCells, Nat.zero_add, Nat.reduceAdd] at hw1_; subst hw1_; have hcb403_0 := (blk_cell hk1_ 0).trans rfl; have hfb403_0 := blk_frozen hk1_ 0; have hcb403_1 := (blk_cell hk1_ 1).trans rfl; have hfb403_1 := blk_frozen hk1_ 1; clear hk1_) | ((with_reducible refine gate_store (t := 24) (p := 3) rfl ?_); refine HW.store_box2 rfl rfl 24 _ _ rfl rfl rfl BK374.out rfl (by kernel_rfl) (by intro q hq; simp only [List.mem_cons, List.not_mem_nil, or_false] at hq; rcases hq with rfl | rfl <;> rfl) ?_; intro w1_ hw1_ hk1_; simp only [List.toList_toArray, World.setCells, Nat.zero_add, Nat.reduceAdd] at hw1_; subst hw1_; have hcb374_0 := (blk_cell hk1_ 0).trans rfl; have hfb374_0 := blk_frozen hk1_ 0; have hcb374_1 := (blk_cell hk1_ 1).trans rfl; have hfb374_1 := blk_frozen hk1_ 1; clear hk1_) | ((with_reducible refine gate_callee (f := 15) rfl ?_); refine goesL_ (some 59) rfl rfl Try.func15 (by kernel_rfl) rfl #[.slice Ao65 y384.length co65, .int .i64 a2] rfl (by (try simp only [List.map_toArray, List.map_cons, List.map_nil]); first | done | rfl | (simp only [List.length_drop, List.length_take]; rfl)) ?_; (with_reducible refine (image_Read.calls kj10 _ _ y384 a2 t398 t399 t402 _ ?side1 ?side2 A39.out).mono ?_); (case side1 => repeat (first | exact (Kd.R_reads' HO_1.out).2.2 | (with_reducible refine Kd.C_alloc ?_ _) | (with_reducible refine Kd.C_drewN ?_ _) | (with_reducible refine Kd.C_drew ?_))); (case side2 => exact (Kd.R_reads' HO_1.out).2.1); rintro e w66 ⟨v400, rfl, ho0, hb⟩; refine ⟨_, rfl, ?_⟩; have n0_ := Aside0.mk (Kd.R_elder' (by (with_reducible repeat (first | apply Kd.R_alloc | apply Kd.R_drewN | apply Kd.R_drew)); exact HO_1.out) (Kd.R_base ho0) hb); have n1_ := Aside0.mk (Kd.R_elder' (by (with_reducible repeat (first | apply Kd.R_alloc | apply Kd.R_drewN | apply Kd.R_drew)); exact HO_375001.out) (Kd.R_base ho0) hb); have n2_ := Aside0.mk (Kd.R_lower (Kd.R_new' (Kd.R_new' ho0 (Kd.R_lt (by (with_reducible repeat (first | apply Kd.R_alloc | apply Kd.R_drewN | apply Kd.R_drew)); exact HO_1.out))) (Kd.R_lt (by (with_reducible repeat (first | apply Kd.R_alloc | apply Kd.R_drewN | apply Kd.R_drew)); exact HO_375001.out))) (below_size (by repeat (first | (with_reducible first | exact HB.out | apply below_alloc | apply pw_below_drewN | apply below_drew1 | refine below_set ?_ GE374.out) | exact HB.out)))); have n3_ := Aside0.mk (blk_below (g := gb374) (o := .cells #[.int .i64 t376, .slice Ao17 t377.length co17] 24 (0, 0)) (by (with_reducible repeat (first | refine blk_drewN ?_ _ | refine blk_drew ?_ | refine blk_alloc ?_ _)); exact BK374.out) hb); have n4_ := Aside0.mk (below_step (by repeat (first | (with_reducible first | exact HB.out | apply below_alloc | apply pw_below_drewN | apply below_drew1 | refine below_set ?_ GE374.out) | exact HB.out)) hb); clear HO_1; clear HO_375001; clear BK374; clear HB; have HO_1 := n0_; have HO_375001 := n1_; have HO401 := n2_; have BK374 := n3_; have HB := n4_; clear n0_ n1_ n2_ n3_ n4_; (try clear hb); (try clear hb2); (try clear hk); (try clear hi); (try clear ho0)) | ((with_reducible refine gate_dst (N := 12) rfl ?_); (try (refine gate_guard (by rfl) ?_; dsimp only)); refine box_event ?hg (N := 12) ?hd (cs := #[.int .i64 0, .slice none 0 0]) (t := 24) ?hr ?_; (case hd => rfl); (case hg => rfl); (case hr => first | (go_simp; done) | (go_simp; rfl)); intro gb403 hg w67 hbox hb; have n0_ := Aside0.mk (Kd.R_below (by (with_reducible repeat (first | apply Kd.R_alloc | apply Kd.R_drewN | apply Kd.R_drew)); exact HO_1.out) hb); have n1_ := Aside0.mk (Kd.R_below (by (with_reducible repeat (first | apply Kd.R_alloc | apply Kd.R_drewN | apply Kd.R_drew)); exact HO_375001.out) hb); have n2_ := Aside0.mk (Kd.R_below (by (with_reducible repeat (first | apply Kd.R_alloc | apply Kd.R_drewN | apply Kd.R_drew)); exact HO401.out) hb); have n3_ := Aside0.mk (blk_below (g := gb374) (o := .cells #[.int .i64 t376, .slice Ao17 t377.length co17] 24 (0, 0)) (by (with_reducible repeat (first | refine blk_drewN ?_ _ | refine blk_drew ?_ | refine blk_alloc ?_ _)); exact BK374.out) hb); have n4_ := Aside0.mk (below_step (by repeat (first | (with_reducible first | exact HB.out | apply below_alloc | apply pw_below_drewN | apply below_drew1 | refine below_set ?_ GE374.out) | exact HB.out)) hb); have n5_ := Aside0.mk (hbox); have n6_ := Aside0.mk ((by rw [hg]; exact (below_size (by repeat (first | (with_reducible first | exact HB.out | apply below_alloc | apply pw_below_drewN | apply below_drew1 | refine below_set ?_ GE374.out) | exact HB.out))) : w.heap.size ≤ gb403)); have n7_ := Aside0.mk ((by rw [hg]; exact (below_size (by repeat (first | (with_reducible first | exact HB.out | apply below_alloc | apply pw_below_drewN | apply below_drew1 | refine below_set ?_ GE374.out) | exact HB.out))) : w.heap.size ≤ gb403)); have n8_ := Aside0.mk ((by rw [hg]; exact Nat.ne_of_lt (blk_lt (g := gb374) (o := .cells #[.int .i64 t376, .slice Ao17 t377.length co17] 24 (0, 0)) (by (with_reducible repeat (first | refine blk_drewN ?_ _ | refine blk_drew ?_ | refine blk_alloc ?_ _)); exact BK374.out)) : gb374 ≠ gb403)); have n9_ := Aside0.mk ((by rw [hg]; exact Nat.ne_of_gt (blk_lt (g := gb374) (o := .cells #[.int .i64 t376, .slice Ao17 t377.length co17] 24 (0, 0)) (by (with_reducible repeat (first | refine blk_drewN ?_ _ | refine blk_drew ?_ | refine blk_alloc ?_ _)); exact BK374.out)) : gb403 ≠ gb374)); clear HO_1; clear HO_375001; clear HO401; clear BK374; clear HB; have HO_1 := n0_; have HO_375001 := n1_; have HO401 := n2_; have BK374 := n3_; have HB := n4_; have BK403 := n5_; have GW403 := n6_; have GE403 := n7_; have NB374_403 := n8_; have NB403_374 := n9_; clear n0_ n1_ n2_ n3_ n4_ n5_ n6_ n7_ n8_ n9_; clear hb hbox hg; have hnb68 := NB403_374.out; have hnc68 := NB374_403.out; have hcz69_0 : w67.cell? ⟨gb403, 0, none⟩ = some (.int .i64 0) := (blk_cell BK403.out 0).trans rfl; have hcz69_1 : w67.cell? ⟨gb403, 1, none⟩ = some (.slice none 0 0) := (blk_cell BK403.out 1).trans rfl; have hfz69_0 := blk_frozen BK403.out 0; have hfz69_1 := blk_frozen BK403.out 1; obtain ⟨Ao70, co70, eo70⟩ := Kd.R_slice HO401.out; subst eo70) | ((with_reducible refine gate_callee (f := 19) rfl ?_); refine goesL_ (some 66) rfl rfl Try.func19 (by kernel_rfl) rfl #[.agg #[.int .i64 t398, .slice Ao70 t399.length co70], .agg #[.int .i64 0, .slice none 0 0]] rfl (by (try simp only [List.map_toArray, List.map_cons, List.map_nil]); first | done | rfl | (simp only [List.length_drop, List.length_take]; rfl)) ?_; (refine (phaetonref24_Same.calls t398 _ _ t399 0 _ _ ([] : List Int) true _ ?side1 ?side2 ?side3 ?side4 A58.out).mono ?_); (case side1 => refine (Kd.R_reads' (e := 5) (base := w.heap.size) (ok := fun k_ => ((True ∧ some k_ ≠ (.slice Ao65 y384.length co65 : Value).ownBlock) ∧ some k_ ≠ (.slice Ao17 t377.length co17 : Value).ownBlock)) (n := t399.length) (c := co70) ?_).2.2; exact (by (with_reducible repeat (first | apply Kd.R_alloc | apply Kd.R_drewN | apply Kd.R_drew)); exact (Kd.R_mono (Kd.R_far (p := ⟨gb403, 1, none⟩) (Kd.R_far (p := ⟨gb403, 0, none⟩) (Kd.R_types HO401.out BK403.out (by decide)) (fun _ hk => hk.2) (.int .i64 t398)) (fun _ hk => hk.2) (.slice Ao70 t399.length co70)) (fun _ h_ => h_.1)))); (case side2 => exact (Kd.R_reads' HO401.out).2.1); (case side3 => exact Kd.C_nil _ _); (case side4 => exact Nat.le_refl _); rintro e w71 ⟨rfl, hb⟩; refine ⟨_, rfl, ?_⟩; have n0_ := Aside0.mk (Kd.R_below (by (with_reducible repeat (first | apply Kd.R_alloc | apply Kd.R_drewN | apply Kd.R_drew)); exact (Kd.R_mono (Kd.R_far (p := ⟨gb403, 1, none⟩) (Kd.R_far (p := ⟨gb403, 0, none⟩) (Kd.R_types HO_1.out BK403.out (by decide)) (fun _ hk => hk.2) (.int .i64 t398)) (fun _ hk => hk.2) (.slice Ao70 t399.length co70)) (fun _ h_ => h_.1))) hb); have n1_ := Aside0.mk (Kd.R_below (by (with_reducible repeat (first | apply Kd.R_alloc | apply Kd.R_drewN | apply Kd.R_drew)); exact (Kd.R_mono (Kd.R_far (p := ⟨gb403, 1, none⟩) (Kd.R_far (p := ⟨gb403, 0, none⟩) (Kd.R_types HO_375001.out BK403.out (by decide)) (fun _ hk => hk.2) (.int .i64 t398)) (fun _ hk => hk.2) (.slice Ao70 t399.length co70)) (fun _ h_ => h_.1))) hb); have n2_ := Aside0.mk (Kd.R_below (by (with_reducible repeat (first | apply Kd.R_alloc | apply Kd.R_drewN | apply Kd.R_drew)); exact (Kd.R_mono (Kd.R_far (p := ⟨gb403, 1, none⟩) (Kd.R_far (p := ⟨gb403, 0, none⟩) (Kd.R_types HO401.out BK403.out (by decide)) (fun _ hk => hk.2) (.int .i64 t398)) (fun _ hk => hk.2) (.slice Ao70 t399.length co70)) (fun _ h_ => h_.1))) hb); have n3_ := Aside0.mk (blk_below (g := gb374) (o := .cells #[.int .i64 t376, .slice Ao17 t377.length co17] 24 (0, 0)) (by (with_reducible repeat (first | refine blk_drewN ?_ _ | refine blk_drew ?_ | refine blk_alloc ?_ _)); refine blk_far ?_ NB374_403.out _; (with_reducible repeat (first | refine blk_drewN ?_ _ | refine blk_drew ?_ | refine blk_alloc ?_ _)); refine blk_far ?_ NB374_403.out _; (with_reducible repeat (first | refine blk_drewN ?_ _ | refine blk_drew ?_ | refine blk_alloc ?_ _)); exact BK374.out) hb); have n4_ := Aside0.mk (blk_below (g := gb403) (o := .cells #[.int .i64 t398, .slice Ao70 t399.length co70] 24 (0, 0)) (by (with_reducible repeat (first | refine blk_drewN ?_ _ | refine blk_drew ?_ | refine blk_alloc ?_ _)); refine blk_put (cs := #[.int .i64 t398, .slice none 0 0]) ?_ 1 _ rfl; (with_reducible repeat (first | refine blk_drewN ?_ _ | refine blk_drew ?_ | refine blk_alloc ?_ _)); refine blk_put (cs := #[.int .i64 0, .slice none 0 0]) ?_ 0 _ rfl; (with_reducible repeat (first | refine blk_drewN ?_ _ | refine blk_drew ?_ | refine blk_alloc ?_ _)); exact BK403.out) hb); have n5_ := Aside0.mk (below_step (by repeat (first | (with_reducible first | exact HB.out | apply below_alloc | apply pw_below_drewN | apply below_drew1 | refine below_set ?_ GE374.out | refine below_set ?_ GE403.out) | exact HB.out)) hb); clear HO_1; clear HO_375001; clear HO401; clear BK374; clear BK403; clear HB; have HO_1 := n0_; have HO_375001 := n1_; have HO401 := n2_; have BK374 := n3_; have BK403 := n4_; have HB := n5_; clear n0_ n1_ n2_ n3_ n4_ n5_; (try clear hb); (try clear hb2); (try clear hk); (try clear hi); have hcz72_0 : w71.cell? ⟨gb374, 0, none⟩ = some (.int .i64 t376) := (blk_cell BK374.out 0).trans rfl; have hcz72_1 : w71.cell? ⟨gb374, 1, none⟩ = some (.slice Ao17 t377.length co17) := (blk_cell BK374.out 1).trans rfl; have hfz72_0 := blk_frozen BK374.out 0; have hfz72_1 := blk_frozen BK374.out 1) | (go_at_call 17; (with_reducible refine (image_Right.calls t376 _ _ t377 true _ ?side1 ?side2 A60.out).mono ?_); (case side1 => repeat (first | exact (Kd.R_reads' HO_375001.out).2.2 | (with_reducible refine Kd.C_alloc ?_ _) | (with_reducible refine Kd.C_drewN ?_ _) | (with_reducible refine Kd.C_drew ?_))); (case side2 => exact (Kd.R_reads' HO_375001.out).2.1); rintro e w73 ⟨rfl, hb⟩; have n0_ := Aside0.mk (Kd.R_below (by (with_reducible repeat (first | apply Kd.R_alloc | apply Kd.R_drewN | apply Kd.R_drew)); exact HO_1.out) hb); have n1_ := Aside0.mk (Kd.R_below (by (with_reducible repeat (first | apply Kd.R_alloc | apply Kd.R_drewN | apply Kd.R_drew)); exact HO_375001.out) hb); have n2_ := Aside0.mk (Kd.R_below (by (with_reducible repeat (first | apply Kd.R_alloc | apply Kd.R_drewN | apply Kd.R_drew)); exact HO401.out) hb); have n3_ := Aside0.mk (blk_below (g := gb374) (o := .cells #[.int .i64 t376, .slice Ao17 t377.length co17] 24 (0, 0)) (by (with_reducible repeat (first | refine blk_drewN ?_ _ | refine blk_drew ?_ | refine blk_alloc ?_ _)); exact BK374.out) hb); have n4_ := Aside0.mk (blk_below (g := gb403) (o := .cells #[.int .i64 t398, .slice Ao70 t399.length co70] 24 (0, 0)) (by (with_reducible repeat (first | refine blk_drewN ?_ _ | refine blk_drew ?_ | refine blk_alloc ?_ _)); exact BK403.out) hb); have n5_ := Aside0.mk (below_step (by repeat (first | (with_reducible first | exact HB.out | apply below_alloc | apply pw_below_drewN | apply below_drew1 | refine below_set ?_ GE374.out | refine below_set ?_ GE403.out) | exact HB.out)) hb); clear HO_1; clear HO_375001; clear HO401; clear BK374; clear BK403; clear HB; have HO_1 := n0_; have HO_375001 := n1_; have HO401 := n2_; have BK374 := n3_; have BK403 := n4_; have HB := n5_; clear n0_ n1_ n2_ n3_ n4_ n5_; (try clear hb); (try clear hb2); (try clear hk); (try clear hi)) | (go_at_call 25; (with_reducible refine (phaetonref24_May.calls a2 t411 _ A62.out).mono ?_); rintro e w' ⟨rfl, ⟨nd, rfl⟩⟩))
                      go_ret
                      exact ⟨by first | rfl | (simp [errW_none, errW_some] <;> rfl) | (simp only [← hji6]; first | rfl | (simp [errW_none, errW_some] <;> rfl)) | (simp [*, errW_none, errW_some] <;> rfl), by repeat (first | (with_reducible first | exact HB.out | apply below_alloc | apply pw_below_drewN | apply below_drew1 | refine below_set ?_ GE374.out | refine below_set ?_ GE403.out) | exact HB.out)⟩
                    · replace c64 := Bool.eq_false_iff.mpr c64
                      subst c64
                      have H1 : (none) = some r := by rw [if_neg (show ¬ (false = true) by decide)] at H; exact H
                      clear H
                      have H := H1
                      clear H1
                      exact absurd H (by simp)
                  · rw [if_neg c63] at H
                    exact absurd H (by simp)
                · replace c61 := Bool.eq_false_iff.mpr c61
                  subst c61
                  have H1 : (if (t390 == false) = true then (if t375 = true then (some true) else (none)) else (none)) = some r := by rw [if_neg (show ¬ (false = true) by decide)] at H; exact H
                  clear H
                  have H := H1
                  clear H1
                  by_cases c74 : (t390 == false) = true
                  · rw [if_pos c74] at H
                    have c74b0 : (t390 == false) = true := c74
                    (try (have c74b1 : decide (t390 = false) = true := by simpa using c74))
                    (try (have c74b2 : (t390 == false) = true := by simpa using c74))
                    clear c74
                    by_cases c75 : t375 = true
                    · subst c75
                      have H1 : (some true) = some r := by rw [if_pos rfl] at H; exact H
                      clear H
                      have H := H1
                      clear H1
                      obtain rfl := Option.some.inj H
                      obtain ⟨Ao76, co76, eo76⟩ := Kd.R_slice HO_1.out
                      subst eo76
                      go_wp2_with (first | ((with_reducible refine gate_store (t := 24) (p := 12) rfl ?_); refine HW.store_box2 rfl rfl 24 _ _ rfl rfl rfl BK403.out rfl (by kernel_rfl) (by intro q hq; simp only [List.mem_cons, List.not_mem_nil, or_false] at hq; rcases hq with rfl | rfl <;> rfl) ?_; intro w1_ hw1_ hk1_; simp only [List.toList_toArray, World.setCells, Nat.zero_add, Nat.reduceAdd] at hw1_; subst hw1_; have hcb403_0 := (blk_cell hk1_ 0).trans rfl; have hfb403_0 := blk_frozen hk1_ 0; have hcb403_1 := (blk_cell hk1_ 1).trans rfl; have hfb403_1 := blk_frozen hk1_ 1; clear hk1_) | ((with_reducible refine gate_store (t := 24) (p := 3) rfl ?_); refine HW.store_box2 rfl rfl 24 _ _ rfl rfl rfl BK374.out rfl (by kernel_rfl) (by intro q hq; simp only [List.mem_cons, List.not_mem_nil, or_false] at hq; rcases hq with rfl | rfl <;> rfl) ?_; intro w1_ hw1_ hk1_; simp only [List.toList_toArray, World.setCells, Nat.zero_add, Nat.reduceAdd] at hw1_; subst hw1_; have hcb374_0 := (blk_cell hk1_ 0).trans rfl; have hfb374_0 := blk_frozen hk1_ 0; have hcb374_1 := (blk_cell hk1_ 1).trans rfl; have hfb374_1 := blk_frozen hk1_ 1; clear hk1_) | ((with_reducible refine gate_callee (f := 15) rfl ?_); refine goesL_ (some 59) rfl rfl Try.func15 (by kernel_rfl) rfl #[.slice Ao76 y384.length co76, .int .i64 a2] rfl (by (try simp only [List.map_toArray, List.map_cons, List.map_nil]); first | done | rfl | (simp only [List.length_drop, List.length_take]; rfl)) ?_; (with_reducible refine (image_Read.calls kj10 _ _ y384 a2 t398 t399 t402 _ ?side1 ?side2 A39.out).mono ?_); (case side1 => repeat (first | exact (Kd.R_reads' HO_1.out).2.2 | (with_reducible refine Kd.C_alloc ?_ _) | (with_reducible refine Kd.C_drewN ?_ _) | (with_reducible refine Kd.C_drew ?_))); (case side2 => exact (Kd.R_reads' HO_1.out).2.1); rintro e w77 ⟨v400, rfl, ho0, hb⟩; refine ⟨_, rfl, ?_⟩; have n0_ := Aside0.mk (Kd.R_elder' (by (with_reducible repeat (first | apply Kd.R_alloc | apply Kd.R_drewN | apply Kd.R_drew)); exact HO_1.out) (Kd.R_base ho0) hb); have n1_ := Aside0.mk (Kd.R_elder' (by (with_reducible repeat (first | apply Kd.R_alloc | apply Kd.R_drewN | apply Kd.R_drew)); exact HO_375001.out) (Kd.R_base ho0) hb); have n2_ := Aside0.mk (Kd.R_lower (Kd.R_new' (Kd.R_new' ho0 (Kd.R_lt (by (with_reducible repeat (first | apply Kd.R_alloc | apply Kd.R_drewN | apply Kd.R_drew)); exact HO_1.out))) (Kd.R_lt (by (with_reducible repeat (first | apply Kd.R_alloc | apply Kd.R_drewN | apply Kd.R_drew)); exact HO_375001.out))) (below_size (by repeat (first | (with_reducible first | exact HB.out | apply below_alloc | apply pw_below_drewN | apply below_drew1 | refine below_set ?_ GE374.out) | exact HB.out)))); have n3_ := Aside0.mk (blk_below (g := gb374) (o := .cells #[.int .i64 t376, .slice Ao17 t377.length co17] 24 (0, 0)) (by (with_reducible repeat (first | refine blk_drewN ?_ _ | refine blk_drew ?_ | refine blk_alloc ?_ _)); exact BK374.out) hb); have n4_ := Aside0.mk (below_step (by repeat (first | (with_reducible first | exact HB.out | apply below_alloc | apply pw_below_drewN | apply below_drew1 | refine below_set ?_ GE374.out) | exact HB.out)) hb); clear HO_1; clear HO_375001; clear BK374; clear HB; have HO_1 := n0_; have HO_375001 := n1_; have HO401 := n2_; have BK374 := n3_; have HB := n4_; clear n0_ n1_ n2_ n3_ n4_; (try clear hb); (try clear hb2); (try clear hk); (try clear hi); (try clear ho0)) | ((with_reducible refine gate_dst (N := 12) rfl ?_); (try (refine gate_guard (by rfl) ?_; dsimp only)); refine box_event ?hg (N := 12) ?hd (cs := #[.int .i64 0, .slice none 0 0]) (t := 24) ?hr ?_; (case hd => rfl); (case hg => rfl); (case hr => first | (go_simp; done) | (go_simp; rfl)); intro gb403 hg w78 hbox hb; have n0_ := Aside0.mk (Kd.R_below (by (with_reducible repeat (first | apply Kd.R_alloc | apply Kd.R_drewN | apply Kd.R_drew)); exact HO_1.out) hb); have n1_ := Aside0.mk (Kd.R_below (by (with_reducible repeat (first | apply Kd.R_alloc | apply Kd.R_drewN | apply Kd.R_drew)); exact HO_375001.out) hb); have n2_ := Aside0.mk (Kd.R_below (by (with_reducible repeat (first | apply Kd.R_alloc | apply Kd.R_drewN | apply Kd.R_drew)); exact HO401.out) hb); have n3_ := Aside0.mk (blk_below (g := gb374) (o := .cells #[.int .i64 t376, .slice Ao17 t377.length co17] 24 (0, 0)) (by (with_reducible repeat (first | refine blk_drewN ?_ _ | refine blk_drew ?_ | refine blk_alloc ?_ _)); exact BK374.out) hb); have n4_ := Aside0.mk (below_step (by repeat (first | (with_reducible first | exact HB.out | apply below_alloc | apply pw_below_drewN | apply below_drew1 | refine below_set ?_ GE374.out) | exact HB.out)) hb); have n5_ := Aside0.mk (hbox); have n6_ := Aside0.mk ((by rw [hg]; exact (below_size (by repeat (first | (with_reducible first | exact HB.out | apply below_alloc | apply pw_below_drewN | apply below_drew1 | refine below_set ?_ GE374.out) | exact HB.out))) : w.heap.size ≤ gb403)); have n7_ := Aside0.mk ((by rw [hg]; exact (below_size (by repeat (first | (with_reducible first | exact HB.out | apply below_alloc | apply pw_below_drewN | apply below_drew1 | refine below_set ?_ GE374.out) | exact HB.out))) : w.heap.size ≤ gb403)); have n8_ := Aside0.mk ((by rw [hg]; exact Nat.ne_of_lt (blk_lt (g := gb374) (o := .cells #[.int .i64 t376, .slice Ao17 t377.length co17] 24 (0, 0)) (by (with_reducible repeat (first | refine blk_drewN ?_ _ | refine blk_drew ?_ | refine blk_alloc ?_ _)); exact BK374.out)) : gb374 ≠ gb403)); have n9_ := Aside0.mk ((by rw [hg]; exact Nat.ne_of_gt (blk_lt (g := gb374) (o := .cells #[.int .i64 t376, .slice Ao17 t377.length co17] 24 (0, 0)) (by (with_reducible repeat (first | refine blk_drewN ?_ _ | refine blk_drew ?_ | refine blk_alloc ?_ _)); exact BK374.out)) : gb403 ≠ gb374)); clear HO_1; clear HO_375001; clear HO401; clear BK374; clear HB; have HO_1 := n0_; have HO_375001 := n1_; have HO401 := n2_; have BK374 := n3_; have HB := n4_; have BK403 := n5_; have GW403 := n6_; have GE403 := n7_; have NB374_403 := n8_; have NB403_374 := n9_; clear n0_ n1_ n2_ n3_ n4_ n5_ n6_ n7_ n8_ n9_; clear hb hbox hg; have hnb79 := NB403_374.out; have hnc79 := NB374_403.out; have hcz80_0 : w78.cell? ⟨gb403, 0, none⟩ = some (.int .i64 0) := (blk_cell BK403.out 0).trans rfl; have hcz80_1 : w78.cell? ⟨gb403, 1, none⟩ = some (.slice none 0 0) := (blk_cell BK403.out 1).trans rfl; have hfz80_0 := blk_frozen BK403.out 0; have hfz80_1 := blk_frozen BK403.out 1; obtain ⟨Ao81, co81, eo81⟩ := Kd.R_slice HO401.out; subst eo81) | ((with_reducible refine gate_callee (f := 19) rfl ?_); refine goesL_ (some 66) rfl rfl Try.func19 (by kernel_rfl) rfl #[.agg #[.int .i64 t398, .slice Ao81 t399.length co81], .agg #[.int .i64 0, .slice none 0 0]] rfl (by (try simp only [List.map_toArray, List.map_cons, List.map_nil]); first | done | rfl | (simp only [List.length_drop, List.length_take]; rfl)) ?_; (refine (phaetonref24_Same.calls t398 _ _ t399 0 _ _ ([] : List Int) true _ ?side1 ?side2 ?side3 ?side4 A58.out).mono ?_); (case side1 => refine (Kd.R_reads' (e := 5) (base := w.heap.size) (ok := fun k_ => ((True ∧ some k_ ≠ (.slice Ao76 y384.length co76 : Value).ownBlock) ∧ some k_ ≠ (.slice Ao17 t377.length co17 : Value).ownBlock)) (n := t399.length) (c := co81) ?_).2.2; exact (by (with_reducible repeat (first | apply Kd.R_alloc | apply Kd.R_drewN | apply Kd.R_drew)); exact (Kd.R_mono (Kd.R_far (p := ⟨gb403, 1, none⟩) (Kd.R_far (p := ⟨gb403, 0, none⟩) (Kd.R_types HO401.out BK403.out (by decide)) (fun _ hk => hk.2) (.int .i64 t398)) (fun _ hk => hk.2) (.slice Ao81 t399.length co81)) (fun _ h_ => h_.1)))); (case side2 => exact (Kd.R_reads' HO401.out).2.1); (case side3 => exact Kd.C_nil _ _); (case side4 => exact Nat.le_refl _); rintro e w82 ⟨rfl, hb⟩; refine ⟨_, rfl, ?_⟩; have n0_ := Aside0.mk (Kd.R_below (by (with_reducible repeat (first | apply Kd.R_alloc | apply Kd.R_drewN | apply Kd.R_drew)); exact (Kd.R_mono (Kd.R_far (p := ⟨gb403, 1, none⟩) (Kd.R_far (p := ⟨gb403, 0, none⟩) (Kd.R_types HO_1.out BK403.out (by decide)) (fun _ hk => hk.2) (.int .i64 t398)) (fun _ hk => hk.2) (.slice Ao81 t399.length co81)) (fun _ h_ => h_.1))) hb); have n1_ := Aside0.mk (Kd.R_below (by (with_reducible repeat (first | apply Kd.R_alloc | apply Kd.R_drewN | apply Kd.R_drew)); exact (Kd.R_mono (Kd.R_far (p := ⟨gb403, 1, none⟩) (Kd.R_far (p := ⟨gb403, 0, none⟩) (Kd.R_types HO_375001.out BK403.out (by decide)) (fun _ hk => hk.2) (.int .i64 t398)) (fun _ hk => hk.2) (.slice Ao81 t399.length co81)) (fun _ h_ => h_.1))) hb); have n2_ := Aside0.mk (Kd.R_below (by (with_reducible repeat (first | apply Kd.R_alloc | apply Kd.R_drewN | apply Kd.R_drew)); exact (Kd.R_mono (Kd.R_far (p := ⟨gb403, 1, none⟩) (Kd.R_far (p := ⟨gb403, 0, none⟩) (Kd.R_types HO401.out BK403.out (by decide)) (fun _ hk => hk.2) (.int .i64 t398)) (fun _ hk => hk.2) (.slice Ao81 t399.length co81)) (fun _ h_ => h_.1))) hb); have n3_ := Aside0.mk (blk_below (g := gb374) (o := .cells #[.int .i64 t376, .slice Ao17 t377.length co17] 24 (0, 0)) (by (with_reducible repeat (first | refine blk_drewN ?_ _ | refine blk_drew ?_ | refine blk_alloc ?_ _)); refine blk_far ?_ NB374_403.out _; (with_reducible repeat (first | refine blk_drewN ?_ _ | refine blk_drew ?_ | refine blk_alloc ?_ _)); refine blk_far ?_ NB374_403.out _; (with_reducible repeat (first | refine blk_drewN ?_ _ | refine blk_drew ?_ | refine blk_alloc ?_ _)); exact BK374.out) hb); have n4_ := Aside0.mk (blk_below (g := gb403) (o := .cells #[.int .i64 t398, .slice Ao81 t399.length co81] 24 (0, 0)) (by (with_reducible repeat (first | refine blk_drewN ?_ _ | refine blk_drew ?_ | refine blk_alloc ?_ _)); refine blk_put (cs := #[.int .i64 t398, .slice none 0 0]) ?_ 1 _ rfl; (with_reducible repeat (first | refine blk_drewN ?_ _ | refine blk_drew ?_ | refine blk_alloc ?_ _)); refine blk_put (cs := #[.int .i64 0, .slice none 0 0]) ?_ 0 _ rfl; (with_reducible repeat (first | refine blk_drewN ?_ _ | refine blk_drew ?_ | refine blk_alloc ?_ _)); exact BK403.out) hb); have n5_ := Aside0.mk (below_step (by repeat (first | (with_reducible first | exact HB.out | apply below_alloc | apply pw_below_drewN | apply below_drew1 | refine below_set ?_ GE374.out | refine below_set ?_ GE403.out) | exact HB.out)) hb); clear HO_1; clear HO_375001; clear HO401; clear BK374; clear BK403; clear HB; have HO_1 := n0_; have HO_375001 := n1_; have HO401 := n2_; have BK374 := n3_; have BK403 := n4_; have HB := n5_; clear n0_ n1_ n2_ n3_ n4_ n5_; (try clear hb); (try clear hb2); (try clear hk); (try clear hi); have hcz83_0 : w82.cell? ⟨gb374, 0, none⟩ = some (.int .i64 t376) := (blk_cell BK374.out 0).trans rfl; have hcz83_1 : w82.cell? ⟨gb374, 1, none⟩ = some (.slice Ao17 t377.length co17) := (blk_cell BK374.out 1).trans rfl; have hfz83_0 := blk_frozen BK374.out 0; have hfz83_1 := blk_frozen BK374.out 1) | (go_at_call 17; (with_reducible refine (image_Right.calls t376 _ _ t377 false _ ?side1 ?side2 A60.out).mono ?_); (case side1 => repeat (first | exact (Kd.R_reads' HO_375001.out).2.2 | (with_reducible refine Kd.C_alloc ?_ _) | (with_reducible refine Kd.C_drewN ?_ _) | (with_reducible refine Kd.C_drew ?_))); (case side2 => exact (Kd.R_reads' HO_375001.out).2.1); rintro e w84 ⟨rfl, hb⟩; have n0_ := Aside0.mk (Kd.R_below (by (with_reducible repeat (first | apply Kd.R_alloc | apply Kd.R_drewN | apply Kd.R_drew)); exact HO_1.out) hb); have n1_ := Aside0.mk (Kd.R_below (by (with_reducible repeat (first | apply Kd.R_alloc | apply Kd.R_drewN | apply Kd.R_drew)); exact HO_375001.out) hb); have n2_ := Aside0.mk (Kd.R_below (by (with_reducible repeat (first | apply Kd.R_alloc | apply Kd.R_drewN | apply Kd.R_drew)); exact HO401.out) hb); have n3_ := Aside0.mk (blk_below (g := gb374) (o := .cells #[.int .i64 t376, .slice Ao17 t377.length co17] 24 (0, 0)) (by (with_reducible repeat (first | refine blk_drewN ?_ _ | refine blk_drew ?_ | refine blk_alloc ?_ _)); exact BK374.out) hb); have n4_ := Aside0.mk (blk_below (g := gb403) (o := .cells #[.int .i64 t398, .slice Ao81 t399.length co81] 24 (0, 0)) (by (with_reducible repeat (first | refine blk_drewN ?_ _ | refine blk_drew ?_ | refine blk_alloc ?_ _)); exact BK403.out) hb); have n5_ := Aside0.mk (below_step (by repeat (first | (with_reducible first | exact HB.out | apply below_alloc | apply pw_below_drewN | apply below_drew1 | refine below_set ?_ GE374.out | refine below_set ?_ GE403.out) | exact HB.out)) hb); clear HO_1; clear HO_375001; clear HO401; clear BK374; clear BK403; clear HB; have HO_1 := n0_; have HO_375001 := n1_; have HO401 := n2_; have BK374 := n3_; have BK403 := n4_; have HB := n5_; clear n0_ n1_ n2_ n3_ n4_ n5_; (try clear hb); (try clear hb2); (try clear hk); (try clear hi)))
                      go_ret
                      exact ⟨by first | rfl | (simp [errW_none, errW_some] <;> rfl) | (simp only [← hji6]; first | rfl | (simp [errW_none, errW_some] <;> rfl)) | (simp [*, errW_none, errW_some] <;> rfl), by repeat (first | (with_reducible first | exact HB.out | apply below_alloc | apply pw_below_drewN | apply below_drew1 | refine below_set ?_ GE374.out | refine below_set ?_ GE403.out) | exact HB.out)⟩
                    · replace c75 := Bool.eq_false_iff.mpr c75
                      subst c75
                      have H1 : (none) = some r := by rw [if_neg (show ¬ (false = true) by decide)] at H; exact H
                      clear H
                      have H := H1
                      clear H1
                      exact absurd H (by simp)
                  · rw [if_neg c74] at H
                    exact absurd H (by simp)
              · replace c59 := Bool.eq_false_iff.mpr c59
                subst c59
                have H1 : (none) = some r := by rw [if_neg (show ¬ (false = true) by decide)] at H; exact H
                clear H
                have H := H1
                clear H1
                exact absurd H (by simp)
      · rw [if_neg c9] at H
        exact absurd H (by simp)
    · rw [if_neg c8] at H
      exact absurd H (by simp)
  · rw [if_neg c7] at H
    exact absurd H (by simp)

/-- THE ONE PURE STATEMENT of phaetonlaw24_ImageBack. -/
def phaetonlaw24_ImageBack.Pure : Prop := ∀ (a0_0 : Int) (l0_1 : List Int) (l1 : List Int) (a2 : Int), (Lit.int .i64 a0_0).wf = true → l0_1.length ≤ maxLen → (∀ x ∈ l0_1, (fun (x : Int) => (Lit.int .u8 x).wf = true) x) → l1.length ≤ maxLen → l1.length * 1 ≤ 140737488351232 → (∀ x ∈ l1, (fun (x : Int) => (Lit.int .u8 x).wf = true) x) → (Lit.int .i64 a2).wf = true → ∃ k, phaetonlaw24_ImageBack.f k a0_0 l0_1 l1 a2 = some true
theorem phaetonlaw24_ImageBack.walk (P : phaetonlaw24_ImageBack.Pure) (a0_0 : Int) (A0_1 : Option Addr) (c0_1 : Nat) (l0_1 : List Int) (A1 : Option Addr) (c1 : Nat) (l1 : List Int) (a2 : Int) (w : World) (hw0_0 : (Lit.int .i64 a0_0).wf = true) (hw0_1 : ∀ x ∈ l0_1, (fun (x : Int) => (Lit.int .u8 x).wf = true) x) (hr0_1 : Kd.C (Kd.int .u8) w A0_1 l0_1.length l0_1) (hc0_1 : l0_1.length ≤ c0_1) (y1 : l1.length * 1 ≤ 140737488351232) (hw1 : ∀ x ∈ l1, (fun (x : Int) => (Lit.int .u8 x).wf = true) x) (hr1 : Kd.C (Kd.int .u8) w A1 l1.length l1) (hc1 : l1.length ≤ c1) (hw2 : (Lit.int .i64 a2).wf = true) :
    Calls Try.prog 4 #[.agg #[.int .i64 a0_0, .slice A0_1 l0_1.length c0_1], .slice A1 l1.length c1, .int .i64 a2] w fun e w' => e = .returned (.bool true) ∧ Below w.heap.size w w' := by
  obtain ⟨k, h⟩ := P a0_0 l0_1 l1 a2 hw0_0 (by have := hr0_1.2.1; unfold maxLen; omega) hw0_1 (by have := hr1.2.1; unfold maxLen; omega) y1 hw1 hw2
  refine (phaetonlaw24_ImageBack.calls k a0_0 _ _ l0_1 _ _ l1 a2 true w hr0_1 hc0_1 hr1 hc1 h).mono ?_
  rintro e w' ⟨rfl, hd⟩
  exact ⟨rfl, hd⟩

-- NOT PRINTED: function 5 (phaetonlaw24_ImageBurst)

-- NOT PRINTED: function 6 (phaetonlaw24_ImageCut)

-- NOT PRINTED: function 7 (phaetonlaw24_ImageSeal)

/-! ### phaetonlaw24_ImageBlocks: function 8 -/
def phaetonlaw24_ImageBlocks.l0 : Nat → List Int → Bool → List (List Int) → List Int → Int → Option (Bool)
  | 0, _, _, _, _, _ => none
  | k + 1, x0, x3, x4, x5, x6 => if x6 < (x4.length : Int) then (if 0 ≤ x6 then (if ((rd_L2 x4 x6).length : Int) < 1 then (none) else (if ((rd_L2 x4 x6).length : Int) > 64 then (none) else (if (wrap64 (x6 + 1)) < (x4.length : Int) then (if ((rd_L2 x4 x6).length : Int) = 64 then (if x5.length + (rd_L2 x4 x6).length < 140737488355328 then (phaetonlaw24_ImageBlocks.l0 k x0 x3 x4 (x5 ++ (rd_L2 x4 x6)) (wrap64 (x6 + 1))) else (none)) else (none)) else (if x5.length + (rd_L2 x4 x6).length < 140737488355328 then (phaetonlaw24_ImageBlocks.l0 k x0 x3 x4 (x5 ++ (rd_L2 x4 x6)) (wrap64 (x6 + 1))) else (none))))) else (none)) else (if (strOfNums x5).toList = (strOfNums x0).toList then (if (x4.length : Int) = (wrap64 (Int.tdiv (wrap64 ((x0.length : Int) + 63)) 64)) then (if x3 = true then (some true) else (none)) else (none)) else (none))
def phaetonlaw24_ImageBlocks.f (k : Nat) (l0 : List Int) : Option (Bool) := (phaetonlaw24_head.f k).bind fun t412 => ((some (([] : List Int) : List Int)).bind fun y413 => (if 0 ≤ (mn (l0.length : Int) 400) then (if (mn (l0.length : Int) 400) ≤ (l0.length : Int) then (if y413.length + (l0.take ((mn (l0.length : Int) 400) : Int).toNat).length < 140737488355328 then ((some (y413 ++ (l0.take ((mn (l0.length : Int) 400) : Int).toNat) : List Int)).bind fun y417 => ((image_Blocks.f y417).bind fun t420 => (phaetonlaw24_ImageBlocks.l0 k y417 t412 t420 (([] : List Int)) 0))) else (none)) else (none)) else (none)))
theorem phaetonlaw24_ImageBlocks.mono_l : ∀ k, (∀ y0 y1 y2 y3 y4, LeO (phaetonlaw24_ImageBlocks.l0 k y0 y1 y2 y3 y4) (phaetonlaw24_ImageBlocks.l0 (k + 1) y0 y1 y2 y3 y4))
  | 0 => fun _ _ _ _ _ r h => by simp [phaetonlaw24_ImageBlocks.l0] at h
  | k + 1 => by
    have ih0 := phaetonlaw24_ImageBlocks.mono_l k
    · intro y0 y1 y2 y3 y4
      unfold phaetonlaw24_ImageBlocks.l0
      repeat' first
      | (with_reducible exact ih0 _ _ _ _ _)
      | (with_reducible exact phaetonlaw24_head.mono _)
      | (with_reducible exact LeO.refl _)
      | (with_reducible exact LeO.none _)
      | (with_reducible refine LeO.ite ?_ ?_)
      | (with_reducible refine LeO.bind ?_ (fun _ => ?_))
      | exact ih0 _ _ _ _ _
      | exact phaetonlaw24_head.mono _
      | exact LeO.none _
      | refine LeO.ite ?_ ?_
      | refine LeO.bind ?_ (fun _ => ?_)
theorem phaetonlaw24_ImageBlocks.mono : ∀ a0 k, LeO (phaetonlaw24_ImageBlocks.f k a0) (phaetonlaw24_ImageBlocks.f (k + 1) a0) := by
  intro a0 k
  have ih0 := phaetonlaw24_ImageBlocks.mono_l k
  unfold phaetonlaw24_ImageBlocks.f
  repeat' first
      | (with_reducible exact ih0 _ _ _ _ _)
      | (with_reducible exact phaetonlaw24_head.mono _)
      | (with_reducible exact LeO.refl _)
      | (with_reducible exact LeO.none _)
      | (with_reducible refine LeO.ite ?_ ?_)
      | (with_reducible refine LeO.bind ?_ (fun _ => ?_))
      | exact ih0 _ _ _ _ _
      | exact phaetonlaw24_head.mono _
      | exact LeO.none _
      | refine LeO.ite ?_ ?_
      | refine LeO.bind ?_ (fun _ => ?_)
set_option maxHeartbeats 8000000 in
set_option maxRecDepth 100000 in
theorem phaetonlaw24_ImageBlocks.calls (k : Nat) (A0 : Option Addr) (c0 : Nat) (l0 : List Int) (r : Bool) (w : World) (hr0 : Kd.C (Kd.int .u8) w A0 l0.length l0) (hc0 : l0.length ≤ c0) (h : phaetonlaw24_ImageBlocks.f k l0 = some r) :
    Calls Try.prog 8 #[.slice A0 l0.length c0] w fun e w' => e = .returned (.bool r) ∧ Below w.heap.size w w' := by
  have HR0 := Aside0.mk hr0
  have HC0 := Aside0.mk hc0
  clear hr0 hc0
  have HB := Aside0.mk (Below.refl w.heap.size w)
  have H : ((phaetonlaw24_head.f k).bind fun t412 => ((some (([] : List Int) : List Int)).bind fun y413 => (if 0 ≤ (mn (l0.length : Int) 400) then (if (mn (l0.length : Int) 400) ≤ (l0.length : Int) then (if y413.length + (l0.take ((mn (l0.length : Int) 400) : Int).toNat).length < 140737488355328 then ((some (y413 ++ (l0.take ((mn (l0.length : Int) 400) : Int).toNat) : List Int)).bind fun y417 => ((image_Blocks.f y417).bind fun t420 => (phaetonlaw24_ImageBlocks.l0 k y417 t412 t420 (([] : List Int)) 0))) else (none)) else (none)) else (none)))) = some r := h
  clear h
  replace H := Option.bind_eq_some_iff.mp H
  obtain ⟨t412, A20, H⟩ := H
  replace H : ((some (([] : List Int) : List Int)).bind fun y413 => (if 0 ≤ (mn (l0.length : Int) 400) then (if (mn (l0.length : Int) 400) ≤ (l0.length : Int) then (if y413.length + (l0.take ((mn (l0.length : Int) 400) : Int).toNat).length < 140737488355328 then ((some (y413 ++ (l0.take ((mn (l0.length : Int) 400) : Int).toNat) : List Int)).bind fun y417 => ((image_Blocks.f y417).bind fun t420 => (phaetonlaw24_ImageBlocks.l0 k y417 t412 t420 (([] : List Int)) 0))) else (none)) else (none)) else (none))) = some r := H
  have A2 := Aside0.mk A20
  clear A20
  obtain ⟨y413, hy413⟩ : ∃ y_ : List Int, y_ = (([] : List Int)) := ⟨_, rfl⟩
  replace H : (if 0 ≤ (mn (l0.length : Int) 400) then (if (mn (l0.length : Int) 400) ≤ (l0.length : Int) then (if y413.length + (l0.take ((mn (l0.length : Int) 400) : Int).toNat).length < 140737488355328 then ((some (y413 ++ (l0.take ((mn (l0.length : Int) 400) : Int).toNat) : List Int)).bind fun y417 => ((image_Blocks.f y417).bind fun t420 => (phaetonlaw24_ImageBlocks.l0 k y417 t412 t420 (([] : List Int)) 0))) else (none)) else (none)) else (none)) = some r := by first | (rw [hy413]; with_reducible exact H) | (have H2_ := (Option.bind_some _ _).symm.trans H; rw [hy413]; with_reducible exact H2_) | (have H2_ := (Option.bind_some _ _).symm.trans H; with_reducible exact H2_) | with_reducible exact H | (rw [hy413]; exact H) | exact H
  have Ny413 := Aside0.mk hy413
  clear hy413
  obtain ⟨ji3, hji3⟩ : ∃ j_ : Int, (mn (l0.length : Int) 400) = j_ := ⟨_, rfl⟩
  replace H : (if 0 ≤ (ji3) then (if (ji3) ≤ (l0.length : Int) then (if y413.length + (l0.take ((ji3) : Int).toNat).length < 140737488355328 then ((some (y413 ++ (l0.take ((ji3) : Int).toNat) : List Int)).bind fun y417 => ((image_Blocks.f y417).bind fun t420 => (phaetonlaw24_ImageBlocks.l0 k y417 t412 t420 (([] : List Int)) 0))) else (none)) else (none)) else (none)) = some r := by first | (rw [hji3] at H; exact H) | (simp only [hji3] at H ⊢; exact H)
  (try rw [hji3] at A2)
  (try (have hji3h : ji3 ≤ 400 := by (rw [← hji3]; unfold mn; (repeat' split) <;> omega)))
  (try (have hji3g : ji3 ≤ 64 := by omega))
  (try (have hji3l : 0 ≤ ji3 := by (rw [← hji3]; unfold mn; (repeat' split) <;> omega)))
  (try (have hji3m : 0 ≤ ji3 := by omega))
  have hji3_ : (if 400 < (l0.length : Int) then 400 else (l0.length : Int)) = ji3 := hji3
  by_cases c4 : 0 ≤ (ji3)
  · rw [if_pos c4] at H
    have c4b0 := eq_true c4
    have c4b1 : decide (0 ≤ (ji3)) = true := decide_eq_true c4
    have c4m : max (ji3) 0 = (ji3) := by omega
    clear c4
    by_cases c5 : (ji3) ≤ (l0.length : Int)
    · rw [if_pos c5] at H
      have c5b0 := eq_true c5
      have c5b1 : decide ((ji3) ≤ (l0.length : Int)) = true := decide_eq_true c5
      clear c5
      by_cases c6 : y413.length + (l0.take ((ji3) : Int).toNat).length < 140737488355328
      · rw [if_pos c6] at H
        have LMc6 := Aside0.mk c6
        clear c6
        obtain ⟨y417, hy417⟩ : ∃ y_ : List Int, y_ = (y413 ++ (l0.take ((ji3) : Int).toNat)) := ⟨_, rfl⟩
        replace H : ((image_Blocks.f y417).bind fun t420 => (phaetonlaw24_ImageBlocks.l0 k y417 t412 t420 (([] : List Int)) 0)) = some r := by first | (rw [hy417]; with_reducible exact H) | (have H2_ := (Option.bind_some _ _).symm.trans H; rw [hy417]; with_reducible exact H2_) | (have H2_ := (Option.bind_some _ _).symm.trans H; with_reducible exact H2_) | with_reducible exact H | (rw [hy417]; exact H) | exact H
        have Ny417 := Aside0.mk hy417
        clear hy417
        replace H := Option.bind_eq_some_iff.mp H
        obtain ⟨t420, A70, H⟩ := H
        replace H : (phaetonlaw24_ImageBlocks.l0 k y417 t412 t420 (([] : List Int)) 0) = some r := H
        have A7 := Aside0.mk A70
        clear A70
        obtain ⟨y423, hy423⟩ : ∃ y_ : List Int, y_ = (([] : List Int)) := ⟨_, rfl⟩
        replace H : (phaetonlaw24_ImageBlocks.l0 k y417 t412 t420 y423 0) = some r := by first | (rw [hy423]; with_reducible exact H) | (have H2_ := (Option.bind_some _ _).symm.trans H; rw [hy423]; with_reducible exact H2_) | (have H2_ := (Option.bind_some _ _).symm.trans H; with_reducible exact H2_) | with_reducible exact H | (rw [hy423]; exact H) | exact H
        have Ny423 := Aside0.mk hy423
        clear hy423
        have H' := Aside0.mk H
        clear H
        go_enter Try.func8, Try.ntmps8
        (try simp only [List.append])
        go_wp2_with (first | ((with_reducible refine gate_callee (f := 11) rfl ?_); refine goesL_ (some 7) rfl rfl Try.func11 (by kernel_rfl) rfl #[] rfl (by (try simp only [List.map_toArray, List.map_cons, List.map_nil]); first | done | rfl | (simp only [List.length_drop, List.length_take]; rfl)) ?_; (with_reducible refine (phaetonlaw24_head.calls k  t412 _ A2.out).mono ?_); rintro e w8 ⟨rfl, hb⟩; refine ⟨_, rfl, ?_⟩; have n0_ := Aside0.mk (below_step (by repeat (first | (with_reducible first | exact HB.out | apply below_alloc | apply pw_below_drewN | apply below_drew1) | exact HB.out)) hb); clear HB; have HB := n0_; clear n0_; (try clear hb); (try clear hb2); (try clear hk); (try clear hi)) | ((with_reducible refine gate_dst (N := 8) rfl ?_); (try (refine gate_guard (by rfl) ?_; dsimp only)); refine Kd.R_lit (Kd.int .u8) _ 5 ?hg (N := 8) ?hd (xs := ([] : List Int)) (inner := []) (ok := fun _ => True) (okp := fun _ => True) ?hr ?hp (fun _ hk => hk) trivial (Below.refl _ _) (Nat.le_refl _) (by simp) ?_; (case hd => rfl); (case hg => rfl); (case hr => first | (go_simp; done) | (go_simp; rfl)); (case hp => exact (Reps.none _ _)); intro v414 w9 ho10 hb hg_ hnew_; clear hg_ hnew_; (first | rw [← Ny413.out] at ho10 | (simp only [Int.reduceToNat] at ho10; rw [← Ny413.out] at ho10)); have n0_ := Aside0.mk (Kd.R_lower ho10 (below_size (by repeat (first | (with_reducible first | exact HB.out | apply below_alloc | apply pw_below_drewN | apply below_drew1) | exact HB.out)))); have n1_ := Aside0.mk (below_step (by repeat (first | (with_reducible first | exact HB.out | apply below_alloc | apply pw_below_drewN | apply below_drew1) | exact HB.out)) hb); clear HB; have HO415 := n0_; have HB := n1_; clear n0_ n1_; clear hb ho10; obtain ⟨i011, hi011, _, hsz11, _⟩ := info_parts info5; obtain ⟨hcut11, hA11, hC11⟩ := print_take_of (P := Try.prog) (Value.int .u8) 0 22 5 .i64 Try.underlying22 hi011 hsz11 A0 c0 l0 (ji3) (of_decide_eq_true (by first | (with_reducible assumption) | assumption)) (of_decide_eq_true (by first | (with_reducible assumption) | assumption)) HC0.out; have HR416 := Aside0.mk (Kd.C_of_reads (h1 := fun _ => rfl) (hA11 _ (Kd.reads_of_C HR0.out))); have HC416 := Aside0.mk hC11; clear hA11 hC11 hi011 hsz11) | ((with_reducible refine gate_builtin (b := .append) (xs := #[.tmp 8, .tmp 13]) rfl ?_); (try (refine gate_guard (by rfl) ?_; dsimp only)); at_builtin; refine Kd.R_append_rows (Kd.int .u8) (w0 := w) w.heap.size rfl (.tmp 8) (.tmp 13) 22 5 (.int .u8 0) 1 rfl Try.underlying22 info5 rfl (by decide) (by omega) v414 y413 (l0.take ((ji3) : Int).toNat) _ _ _ (fun _ => True) (fun _ => False) rfl rfl ?aO ?aR (fun _ _ h => h) (fun _ h => h.elim) ?aF ?aB ?aS ?aL ?_; (case aR => first | (refine Eq.mp (congrArg (fun n_ => ReadsRow _ _ _ _ n_ _) (show (l0.take ((ji3) : Int).toNat).length = (ji3).toNat from (by rw [List.length_take]; have h_ : ((ji3) : Int) ≤ (l0.length : Int) := of_decide_eq_true (by first | (with_reducible assumption) | assumption); omega))) ?_; repeat (first | exact (Kd.C_below HR416.out HB.out) | (with_reducible refine Kd.C_alloc ?_ _) | (with_reducible refine Kd.C_drewN ?_ _) | (with_reducible refine Kd.C_drew ?_)); done) | (rw [← show (l0.take ((ji3) : Int).toNat).length = (ji3).toNat from (by rw [List.length_take]; have h_ : ((ji3) : Int) ≤ (l0.length : Int) := of_decide_eq_true (by first | (with_reducible assumption) | assumption); omega)]; repeat (first | exact (Kd.C_below HR416.out HB.out) | (with_reducible refine Kd.C_alloc ?_ _) | (with_reducible refine Kd.C_drewN ?_ _) | (with_reducible refine Kd.C_drew ?_))) | (repeat (first | exact (Kd.C_below HR416.out HB.out) | (with_reducible refine Kd.C_alloc ?_ _) | (with_reducible refine Kd.C_drewN ?_ _) | (with_reducible refine Kd.C_drew ?_)))); (case aB => exact (by repeat (first | (with_reducible first | exact HB.out | apply below_alloc | apply pw_below_drewN | apply below_drew1) | exact HB.out))); (case aF => exact (fun _ _ => trivial)); (case aO => exact (by (with_reducible repeat (first | apply Kd.R_alloc | apply Kd.R_drewN | apply Kd.R_drew)); exact HO415.out)); (case aS => exact (below_size (by repeat (first | (with_reducible first | exact HB.out | apply below_alloc | apply pw_below_drewN | apply below_drew1) | exact HB.out)))); (case aL => have := LMc6.out; have hlx_ := (show (l0.take ((ji3) : Int).toNat).length = (ji3).toNat from (by rw [List.length_take]; have h_ : ((ji3) : Int) ≤ (l0.length : Int) := of_decide_eq_true (by first | (with_reducible assumption) | assumption); omega)); omega); intro v418 w12 ho hb hg hat; rw [← Ny417.out] at ho; have n0_ := Aside0.mk (hb); have n1_ := Aside0.mk (ho); clear HB; clear HO415; have HB := n0_; have HO419 := n1_; clear n0_ n1_; clear ho hb hg hat; obtain ⟨Ao13, co13, eo13⟩ := Kd.R_slice HO419.out; subst eo13) | ((with_reducible refine gate_callee (f := 23) rfl ?_); refine goesL_ (some 16) rfl rfl Try.func23 (by kernel_rfl) rfl #[.slice Ao13 y417.length co13] rfl (by (try simp only [List.map_toArray, List.map_cons, List.map_nil]); first | done | rfl | (simp only [List.length_drop, List.length_take]; rfl)) ?_; (with_reducible refine (image_Blocks.calls _ _ y417 t420 _ ?side1 ?side2 A7.out).mono ?_); (case side1 => repeat (first | exact (Kd.R_reads' HO419.out).2.2 | (with_reducible refine Kd.C_alloc ?_ _) | (with_reducible refine Kd.C_drewN ?_ _) | (with_reducible refine Kd.C_drew ?_))); (case side2 => exact (Kd.R_reads' HO419.out).2.1); rintro e w14 ⟨v421, rfl, ho0, hb⟩; refine ⟨_, rfl, ?_⟩; have n0_ := Aside0.mk (Kd.R_below (by (with_reducible repeat (first | apply Kd.R_alloc | apply Kd.R_drewN | apply Kd.R_drew)); exact HO419.out) hb); have n1_ := Aside0.mk (RdA.of ho0); have n2_ := Aside0.mk (below_step (by repeat (first | (with_reducible first | exact HB.out | apply below_alloc | apply pw_below_drewN | apply below_drew1) | exact HB.out)) hb); clear HO419; clear HB; have HO419 := n0_; have HO422 := n1_; have HB := n2_; clear n0_ n1_ n2_; (try clear hb); (try clear hb2); (try clear hk); (try clear hi); (try clear ho0)) | ((with_reducible refine gate_dst (N := 17) rfl ?_); (try (refine gate_guard (by rfl) ?_; dsimp only)); refine Kd.R_lit (Kd.int .u8) _ 5 ?hg (N := 17) ?hd (xs := ([] : List Int)) (inner := []) (ok := fun _ => True) (okp := fun _ => True) ?hr ?hp (fun _ hk => hk) trivial (Below.refl _ _) (Nat.le_refl _) (by simp) ?_; (case hd => rfl); (case hg => rfl); (case hr => first | (go_simp; done) | (go_simp; rfl)); (case hp => exact (Reps.none _ _)); intro v424 w15 ho16 hb hg_ hnew_; clear hg_ hnew_; (first | rw [← Ny423.out] at ho16 | (simp only [Int.reduceToNat] at ho16; rw [← Ny423.out] at ho16)); have n0_ := Aside0.mk (Kd.R_elder' (by (with_reducible repeat (first | apply Kd.R_alloc | apply Kd.R_drewN | apply Kd.R_drew)); exact HO419.out) (Kd.R_base ho16) hb); have n1_ := Aside0.mk (RdA.elder (by (with_reducible repeat (first | apply RdA.alloc | apply RdA.drewN | apply RdA.drew)); exact HO422.out) (Kd.R_base ho16) hb); have n2_ := Aside0.mk (Kd.R_lower (Kd.R_new' ho16 (Kd.R_lt (by (with_reducible repeat (first | apply Kd.R_alloc | apply Kd.R_drewN | apply Kd.R_drew)); exact HO419.out))) (below_size (by repeat (first | (with_reducible first | exact HB.out | apply below_alloc | apply pw_below_drewN | apply below_drew1) | exact HB.out)))); have n3_ := Aside0.mk (below_step (by repeat (first | (with_reducible first | exact HB.out | apply below_alloc | apply pw_below_drewN | apply below_drew1) | exact HB.out)) hb); clear HO419; clear HO422; clear HB; have HO419 := n0_; have HO422 := n1_; have HO425 := n2_; have HB := n3_; clear n0_ n1_ n2_ n3_; clear hb ho16))
        go_loopg [5, 6] k (fun kq v5 v6 w' => ∃ (x5_1 : List Int) (x6_1 : Int), v6 = .int .i64 x6_1 ∧ Aside0 (phaetonlaw24_ImageBlocks.l0 kq y417 t412 t420 x5_1 x6_1 = some r) ∧ Aside0 (kq ≤ k) ∧ Aside0 (Kd.R (Kd.int .u8) 5 w' w.heap.size (fun k_ => some k_ ≠ (v5 : Value).ownBlock) (.slice Ao13 y417.length co13) y417) ∧ Aside0 (RdA w' (fun k_ => some k_ ≠ (v5 : Value).ownBlock) v421 t420) ∧ Aside0 (Kd.R (Kd.int .u8) 5 w' w.heap.size (fun k_ => some k_ ≠ ((.slice Ao13 y417.length co13) : Value).ownBlock) v5 x5_1) ∧ Aside0 (Below w.heap.size w w'))
        case atStart => exact ⟨(y423), (0), (by first | rfl | (simp; done) | (simp [*]; done)), H', ⟨Nat.le_refl _⟩, ⟨by (with_reducible repeat (first | apply Kd.R_alloc | apply Kd.R_drewN | apply Kd.R_drew)); exact Kd.R_mono HO419.out (fun _ hk => hk.2)⟩, ⟨by (with_reducible repeat (first | apply RdA.alloc | apply RdA.drewN | apply RdA.drew)); exact HO422.out⟩, ⟨by (with_reducible repeat (first | apply Kd.R_alloc | apply Kd.R_drewN | apply Kd.R_drew)); exact Kd.R_mono HO425.out (fun _ hk => hk.2)⟩, ⟨by repeat (first | (with_reducible first | exact HB.out | apply below_alloc | apply pw_below_drewN | apply below_drew1) | exact HB.out)⟩⟩
        case round =>
          clear H'
          try clear c1
          try clear c2
          try clear p2
          try clear c4
          try clear c4b0
          try clear c4b1
          try clear c5
          try clear c5b0
          try clear c5b1
          try clear c6
          try clear c8
          try clear c11
          obtain ⟨x5_1, x6_1, rfl, HA, HK1, HO_0, HO_4, HO_5, HB⟩ := hrel
          cases gk with
          | zero => exact absurd HA.out (by simp [phaetonlaw24_ImageBlocks.l0])
          | succ k1 =>
            have H := HA.out
            clear HA
            simp only [phaetonlaw24_ImageBlocks.l0] at H
            by_cases c17 : x6_1 < (t420.length : Int)
            · rw [if_pos c17] at H
              have c17b0 : decide (x6_1 < (t420.length : Int)) = true := decide_eq_true c17
              clear c17
              by_cases c18 : 0 ≤ x6_1
              · rw [if_pos c18] at H
                have c18b0 : decide (0 ≤ x6_1) = true := decide_eq_true c18
                clear c18
                by_cases c19 : ((rd_L2 t420 x6_1).length : Int) < 1
                · rw [if_pos c19] at H
                  exact absurd H (by simp)
                · rw [if_neg c19] at H
                  have c19b0 : decide (((rd_L2 t420 x6_1).length : Int) < 1) = false := decide_eq_false c19
                  have c19b1 : decide ((rd_L2 t420 x6_1).length < 1) = false := decide_eq_false (by omega)
                  clear c19
                  by_cases c20 : ((rd_L2 t420 x6_1).length : Int) > 64
                  · rw [if_pos c20] at H
                    exact absurd H (by simp)
                  · rw [if_neg c20] at H
                    have c20b0 : decide (64 < ((rd_L2 t420 x6_1).length : Int)) = false := decide_eq_false c20
                    have c20b1 : decide (64 < (rd_L2 t420 x6_1).length) = false := decide_eq_false (by omega)
                    clear c20
                    by_cases c21 : (wrap64 (x6_1 + 1)) < (t420.length : Int)
                    · rw [if_pos c21] at H
                      have c21b0 : decide ((wrap64 (x6_1 + 1)) < (t420.length : Int)) = true := decide_eq_true c21
                      clear c21
                      by_cases c22 : ((rd_L2 t420 x6_1).length : Int) = 64
                      · rw [if_pos c22] at H
                        have c22b0 : (((rd_L2 t420 x6_1).length : Int) == 64) = true := beq_iff_eq.mpr c22
                        have c22b1 : (((rd_L2 t420 x6_1).length : Int) != 64) = false := bne_eq_false_iff_eq.mpr c22
                        clear c22
                        by_cases c23 : x5_1.length + (rd_L2 t420 x6_1).length < 140737488355328
                        · rw [if_pos c23] at H
                          have LMc23 := Aside0.mk c23
                          clear c23
                          obtain ⟨y430, hy430⟩ : ∃ y_ : List Int, y_ = (x5_1 ++ (rd_L2 t420 x6_1)) := ⟨_, rfl⟩
                          replace H : (phaetonlaw24_ImageBlocks.l0 k1 y417 t412 t420 y430 (wrap64 (x6_1 + 1))) = some r := by first | (rw [hy430]; with_reducible exact H) | (have H2_ := (Option.bind_some _ _).symm.trans H; rw [hy430]; with_reducible exact H2_) | (have H2_ := (Option.bind_some _ _).symm.trans H; with_reducible exact H2_) | with_reducible exact H | (rw [hy430]; exact H) | exact H
                          have Ny430 := Aside0.mk hy430
                          clear hy430
                          have H' := Aside0.mk H
                          clear H
                          obtain ⟨Ao24, co24, eo24⟩ := RdA.slice HO_4.out
                          subst eo24
                          have p426 : 0 ≤ (x6_1 : Int) := of_decide_eq_true (by first | (with_reducible assumption) | assumption)
                          have q426 : x6_1 < (t420.length : Int) := of_decide_eq_true (by first | (with_reducible assumption) | assumption)
                          obtain ⟨ad426, A426_0, c426_0, e426, hx426_0, hl426_0, hi426_0⟩ := at_L2 (RdA.reads HO_4.out).2.2 x6_1 p426 q426
                          cases e426
                          have HL426_0 := Aside0.mk True.intro
                          have HR426_0 := Aside0.mk hi426_0
                          have HC426_0 := Aside0.mk hl426_0
                          clear hi426_0 hl426_0
                          replace p426 := eq_true p426
                          replace q426 := eq_true q426
                          have p427 : 0 ≤ (x6_1 : Int) := of_decide_eq_true (by first | (with_reducible assumption) | assumption)
                          have q427 : x6_1 < (t420.length : Int) := of_decide_eq_true (by first | (with_reducible assumption) | assumption)
                          obtain ⟨ad427, A427_0, c427_0, e427, hx427_0, hl427_0, hi427_0⟩ := at_L2 (RdA.reads HO_4.out).2.2 x6_1 p427 q427
                          obtain rfl : ad426 = ad427 := (by injection e427)
                          have HL427_0 := Aside0.mk True.intro
                          have HR427_0 := Aside0.mk hi427_0
                          have HC427_0 := Aside0.mk hl427_0
                          clear hi427_0 hl427_0
                          replace p427 := eq_true p427
                          replace q427 := eq_true q427
                          have ea_ := Option.some.inj (hx426_0.symm.trans hx427_0)
                          injection ea_ with ea_ en_ ec_
                          subst ea_
                          subst ec_
                          clear en_
                          have p428 : 0 ≤ (x6_1 : Int) := of_decide_eq_true (by first | (with_reducible assumption) | assumption)
                          have q428 : x6_1 < (t420.length : Int) := of_decide_eq_true (by first | (with_reducible assumption) | assumption)
                          obtain ⟨ad428, A428_0, c428_0, e428, hx428_0, hl428_0, hi428_0⟩ := at_L2 (RdA.reads HO_4.out).2.2 x6_1 p428 q428
                          obtain rfl : ad426 = ad428 := (by injection e428)
                          have HL428_0 := Aside0.mk True.intro
                          have HR428_0 := Aside0.mk hi428_0
                          have HC428_0 := Aside0.mk hl428_0
                          clear hi428_0 hl428_0
                          replace p428 := eq_true p428
                          replace q428 := eq_true q428
                          have ea_ := Option.some.inj (hx426_0.symm.trans hx428_0)
                          injection ea_ with ea_ en_ ec_
                          subst ea_
                          subst ec_
                          clear en_
                          have p429 : 0 ≤ (x6_1 : Int) := of_decide_eq_true (by first | (with_reducible assumption) | assumption)
                          have q429 : x6_1 < (t420.length : Int) := of_decide_eq_true (by first | (with_reducible assumption) | assumption)
                          obtain ⟨ad429, A429_0, c429_0, e429, hx429_0, hl429_0, hi429_0⟩ := at_L2 (RdA.reads HO_4.out).2.2 x6_1 p429 q429
                          obtain rfl : ad426 = ad429 := (by injection e429)
                          have HL429_0 := Aside0.mk True.intro
                          have HR429_0 := Aside0.mk hi429_0
                          have HC429_0 := Aside0.mk hl429_0
                          clear hi429_0 hl429_0
                          replace p429 := eq_true p429
                          replace q429 := eq_true q429
                          have ea_ := Option.some.inj (hx426_0.symm.trans hx429_0)
                          injection ea_ with ea_ en_ ec_
                          subst ea_
                          subst ec_
                          clear en_
                          go_wp2_with (first | ((with_reducible refine gate_builtin (b := .append) (xs := #[.tmp 53, .tmp 57]) rfl ?_); (try (refine gate_guard (by rfl) ?_; dsimp only)); at_builtin; refine Kd.R_append_rows (Kd.int .u8) (w0 := w) w.heap.size rfl (.tmp 53) (.tmp 57) 22 5 (.int .u8 0) 1 rfl Try.underlying22 info5 rfl (by decide) (by omega) u5 x5_1 (rd_L2 t420 x6_1) _ _ _ (fun k_ => some k_ ≠ (.slice Ao13 y417.length co13 : Value).ownBlock) (fun _ => False) rfl rfl ?aO ?aR (fun _ _ h => h) (fun _ h => h.elim) ?aF ?aB ?aS ?aL ?_; (case aR => repeat (first | exact (by repeat (first | (with_reducible exact HR429_0.out) | (with_reducible refine Kd.C_alloc ?_ _) | (with_reducible refine Kd.C_drewN ?_ _) | (with_reducible refine Kd.C_drew ?_) | exact HR429_0.out)) | (with_reducible refine Kd.C_alloc ?_ _) | (with_reducible refine Kd.C_drewN ?_ _) | (with_reducible refine Kd.C_drew ?_))); (case aB => exact (by repeat (first | (with_reducible first | exact HB.out | apply below_alloc | apply pw_below_drewN | apply below_drew1) | exact HB.out))); (case aF => exact (fun k_ hk => Kd.fresh' (Kd.R_lt (by (with_reducible repeat (first | apply Kd.R_alloc | apply Kd.R_drewN | apply Kd.R_drew)); exact HO_0.out)) k_ hk)); (case aO => exact (by (with_reducible repeat (first | apply Kd.R_alloc | apply Kd.R_drewN | apply Kd.R_drew)); exact HO_5.out)); (case aS => exact (below_size (by repeat (first | (with_reducible first | exact HB.out | apply below_alloc | apply pw_below_drewN | apply below_drew1) | exact HB.out)))); (case aL => have := LMc23.out; omega); intro v431 w25 ho hb hg hat; rw [← Ny430.out] at ho; have n0_ := Aside0.mk (Kd.R_after (ok := (fun _ => True)) (by (with_reducible repeat (first | apply Kd.R_alloc | apply Kd.R_drewN | apply Kd.R_drew)); exact Kd.R_mono HO_0.out (fun _ hk => ⟨trivial, hk⟩)) hg hat); have n1_ := Aside0.mk (RdA.after (by (with_reducible repeat (first | apply RdA.alloc | apply RdA.drewN | apply RdA.drew)); exact HO_4.out) hg hat); have n2_ := Aside0.mk True.intro; have n3_ := Aside0.mk True.intro; have n4_ := Aside0.mk True.intro; have n5_ := Aside0.mk True.intro; have n6_ := Aside0.mk (hb); have n7_ := Aside0.mk (ho); clear HO_0; clear HO_4; clear HL426_0; clear HL427_0; clear HL428_0; clear HL429_0; clear HB; clear HO_5; have HO_0 := n0_; have HO_4 := n1_; have HL426_0 := n2_; have HL427_0 := n3_; have HL428_0 := n4_; have HL429_0 := n5_; have HB := n6_; have HO432 := n7_; clear n0_ n1_ n2_ n3_ n4_ n5_ n6_ n7_; clear ho hb hg hat))
                          go_roundg k1
                          case measure => have := HK1.out; omega
                          case rel => exact ⟨(y430), (wrap64 (x6_1 + 1)), (by first | rfl | (simp; done) | (simp [*]; done)), H', ⟨by have := HK1.out; omega⟩, ⟨by (with_reducible repeat (first | apply Kd.R_alloc | apply Kd.R_drewN | apply Kd.R_drew)); exact Kd.R_mono HO_0.out (fun _ hk => hk.2)⟩, ⟨by (with_reducible repeat (first | apply RdA.alloc | apply RdA.drewN | apply RdA.drew)); exact HO_4.out⟩, ⟨by (with_reducible repeat (first | apply Kd.R_alloc | apply Kd.R_drewN | apply Kd.R_drew)); exact HO432.out⟩, ⟨by repeat (first | (with_reducible first | exact HB.out | apply below_alloc | apply pw_below_drewN | apply below_drew1) | exact HB.out)⟩⟩
                        · rw [if_neg c23] at H
                          exact absurd H (by simp)
                      · rw [if_neg c22] at H
                        exact absurd H (by simp)
                    · rw [if_neg c21] at H
                      have c21b0 : decide ((wrap64 (x6_1 + 1)) < (t420.length : Int)) = false := decide_eq_false c21
                      clear c21
                      by_cases c26 : x5_1.length + (rd_L2 t420 x6_1).length < 140737488355328
                      · rw [if_pos c26] at H
                        have LMc26 := Aside0.mk c26
                        clear c26
                        obtain ⟨y434, hy434⟩ : ∃ y_ : List Int, y_ = (x5_1 ++ (rd_L2 t420 x6_1)) := ⟨_, rfl⟩
                        replace H : (phaetonlaw24_ImageBlocks.l0 k1 y417 t412 t420 y434 (wrap64 (x6_1 + 1))) = some r := by first | (rw [hy434]; with_reducible exact H) | (have H2_ := (Option.bind_some _ _).symm.trans H; rw [hy434]; with_reducible exact H2_) | (have H2_ := (Option.bind_some _ _).symm.trans H; with_reducible exact H2_) | with_reducible exact H | (rw [hy434]; exact H) | exact H
                        have Ny434 := Aside0.mk hy434
                        clear hy434
                        have H' := Aside0.mk H
                        clear H
                        obtain ⟨Ao27, co27, eo27⟩ := RdA.slice HO_4.out
                        subst eo27
                        have p426 : 0 ≤ (x6_1 : Int) := of_decide_eq_true (by first | (with_reducible assumption) | assumption)
                        have q426 : x6_1 < (t420.length : Int) := of_decide_eq_true (by first | (with_reducible assumption) | assumption)
                        obtain ⟨ad426, A426_0, c426_0, e426, hx426_0, hl426_0, hi426_0⟩ := at_L2 (RdA.reads HO_4.out).2.2 x6_1 p426 q426
                        cases e426
                        have HL426_0 := Aside0.mk True.intro
                        have HR426_0 := Aside0.mk hi426_0
                        have HC426_0 := Aside0.mk hl426_0
                        clear hi426_0 hl426_0
                        replace p426 := eq_true p426
                        replace q426 := eq_true q426
                        have p427 : 0 ≤ (x6_1 : Int) := of_decide_eq_true (by first | (with_reducible assumption) | assumption)
                        have q427 : x6_1 < (t420.length : Int) := of_decide_eq_true (by first | (with_reducible assumption) | assumption)
                        obtain ⟨ad427, A427_0, c427_0, e427, hx427_0, hl427_0, hi427_0⟩ := at_L2 (RdA.reads HO_4.out).2.2 x6_1 p427 q427
                        obtain rfl : ad426 = ad427 := (by injection e427)
                        have HL427_0 := Aside0.mk True.intro
                        have HR427_0 := Aside0.mk hi427_0
                        have HC427_0 := Aside0.mk hl427_0
                        clear hi427_0 hl427_0
                        replace p427 := eq_true p427
                        replace q427 := eq_true q427
                        have ea_ := Option.some.inj (hx426_0.symm.trans hx427_0)
                        injection ea_ with ea_ en_ ec_
                        subst ea_
                        subst ec_
                        clear en_
                        have p433 : 0 ≤ (x6_1 : Int) := of_decide_eq_true (by first | (with_reducible assumption) | assumption)
                        have q433 : x6_1 < (t420.length : Int) := of_decide_eq_true (by first | (with_reducible assumption) | assumption)
                        obtain ⟨ad433, A433_0, c433_0, e433, hx433_0, hl433_0, hi433_0⟩ := at_L2 (RdA.reads HO_4.out).2.2 x6_1 p433 q433
                        obtain rfl : ad426 = ad433 := (by injection e433)
                        have HL433_0 := Aside0.mk True.intro
                        have HR433_0 := Aside0.mk hi433_0
                        have HC433_0 := Aside0.mk hl433_0
                        clear hi433_0 hl433_0
                        replace p433 := eq_true p433
                        replace q433 := eq_true q433
                        have ea_ := Option.some.inj (hx426_0.symm.trans hx433_0)
                        injection ea_ with ea_ en_ ec_
                        subst ea_
                        subst ec_
                        clear en_
                        go_wp2_with (first | ((with_reducible refine gate_builtin (b := .append) (xs := #[.tmp 53, .tmp 57]) rfl ?_); (try (refine gate_guard (by rfl) ?_; dsimp only)); at_builtin; refine Kd.R_append_rows (Kd.int .u8) (w0 := w) w.heap.size rfl (.tmp 53) (.tmp 57) 22 5 (.int .u8 0) 1 rfl Try.underlying22 info5 rfl (by decide) (by omega) u5 x5_1 (rd_L2 t420 x6_1) _ _ _ (fun k_ => some k_ ≠ (.slice Ao13 y417.length co13 : Value).ownBlock) (fun _ => False) rfl rfl ?aO ?aR (fun _ _ h => h) (fun _ h => h.elim) ?aF ?aB ?aS ?aL ?_; (case aR => repeat (first | exact (by repeat (first | (with_reducible exact HR433_0.out) | (with_reducible refine Kd.C_alloc ?_ _) | (with_reducible refine Kd.C_drewN ?_ _) | (with_reducible refine Kd.C_drew ?_) | exact HR433_0.out)) | (with_reducible refine Kd.C_alloc ?_ _) | (with_reducible refine Kd.C_drewN ?_ _) | (with_reducible refine Kd.C_drew ?_))); (case aB => exact (by repeat (first | (with_reducible first | exact HB.out | apply below_alloc | apply pw_below_drewN | apply below_drew1) | exact HB.out))); (case aF => exact (fun k_ hk => Kd.fresh' (Kd.R_lt (by (with_reducible repeat (first | apply Kd.R_alloc | apply Kd.R_drewN | apply Kd.R_drew)); exact HO_0.out)) k_ hk)); (case aO => exact (by (with_reducible repeat (first | apply Kd.R_alloc | apply Kd.R_drewN | apply Kd.R_drew)); exact HO_5.out)); (case aS => exact (below_size (by repeat (first | (with_reducible first | exact HB.out | apply below_alloc | apply pw_below_drewN | apply below_drew1) | exact HB.out)))); (case aL => have := LMc26.out; omega); intro v435 w28 ho hb hg hat; rw [← Ny434.out] at ho; have n0_ := Aside0.mk (Kd.R_after (ok := (fun _ => True)) (by (with_reducible repeat (first | apply Kd.R_alloc | apply Kd.R_drewN | apply Kd.R_drew)); exact Kd.R_mono HO_0.out (fun _ hk => ⟨trivial, hk⟩)) hg hat); have n1_ := Aside0.mk (RdA.after (by (with_reducible repeat (first | apply RdA.alloc | apply RdA.drewN | apply RdA.drew)); exact HO_4.out) hg hat); have n2_ := Aside0.mk True.intro; have n3_ := Aside0.mk True.intro; have n4_ := Aside0.mk True.intro; have n5_ := Aside0.mk (hb); have n6_ := Aside0.mk (ho); clear HO_0; clear HO_4; clear HL426_0; clear HL427_0; clear HL433_0; clear HB; clear HO_5; have HO_0 := n0_; have HO_4 := n1_; have HL426_0 := n2_; have HL427_0 := n3_; have HL433_0 := n4_; have HB := n5_; have HO436 := n6_; clear n0_ n1_ n2_ n3_ n4_ n5_ n6_; clear ho hb hg hat))
                        go_roundg k1
                        case measure => have := HK1.out; omega
                        case rel => exact ⟨(y434), (wrap64 (x6_1 + 1)), (by first | rfl | (simp; done) | (simp [*]; done)), H', ⟨by have := HK1.out; omega⟩, ⟨by (with_reducible repeat (first | apply Kd.R_alloc | apply Kd.R_drewN | apply Kd.R_drew)); exact Kd.R_mono HO_0.out (fun _ hk => hk.2)⟩, ⟨by (with_reducible repeat (first | apply RdA.alloc | apply RdA.drewN | apply RdA.drew)); exact HO_4.out⟩, ⟨by (with_reducible repeat (first | apply Kd.R_alloc | apply Kd.R_drewN | apply Kd.R_drew)); exact HO436.out⟩, ⟨by repeat (first | (with_reducible first | exact HB.out | apply below_alloc | apply pw_below_drewN | apply below_drew1) | exact HB.out)⟩⟩
                      · rw [if_neg c26] at H
                        exact absurd H (by simp)
              · rw [if_neg c18] at H
                exact absurd H (by simp)
            · rw [if_neg c17] at H
              have c17b0 : decide (x6_1 < (t420.length : Int)) = false := decide_eq_false c17
              clear c17
              by_cases c29 : (strOfNums x5_1).toList = (strOfNums y417).toList
              · rw [if_pos c29] at H
                have c29b0 : ((strOfNums x5_1).toList == (strOfNums y417).toList) = true := beq_iff_eq.mpr c29
                have c29b1 : ((strOfNums x5_1).toList != (strOfNums y417).toList) = false := bne_eq_false_iff_eq.mpr c29
                clear c29
                by_cases c30 : (t420.length : Int) = (wrap64 (Int.tdiv (wrap64 ((y417.length : Int) + 63)) 64))
                · rw [if_pos c30] at H
                  have c30b0 : ((t420.length : Int) == (wrap64 (Int.tdiv (wrap64 ((y417.length : Int) + 63)) 64))) = true := beq_iff_eq.mpr c30
                  have c30b1 : ((t420.length : Int) != (wrap64 (Int.tdiv (wrap64 ((y417.length : Int) + 63)) 64))) = false := bne_eq_false_iff_eq.mpr c30
                  clear c30
                  by_cases c31 : t412 = true
                  · subst c31
                    have H1 : (some true) = some r := by rw [if_pos rfl] at H; exact H
                    clear H
                    have H := H1
                    clear H1
                    obtain rfl := Option.some.inj H
                    obtain ⟨Ao32, co32, eo32⟩ := RdA.slice HO_4.out
                    subst eo32
                    have hcv33 := own_string (P := Try.prog) Try.underlying22 Try.underlying5 Try.underlying9 (Kd.own_of_R HO_5.out)
                    have hcv34 := own_string (P := Try.prog) Try.underlying22 Try.underlying5 Try.underlying9 (Kd.own_of_R HO_0.out)
                    go_wp2
                    go_ret
                    exact ⟨by first | rfl | (simp [errW_none, errW_some] <;> rfl) | (simp only [← hji3]; first | rfl | (simp [errW_none, errW_some] <;> rfl)) | (simp [*, errW_none, errW_some] <;> rfl), by repeat (first | (with_reducible first | exact HB.out | apply below_alloc | apply pw_below_drewN | apply below_drew1) | exact HB.out)⟩
                  · replace c31 := Bool.eq_false_iff.mpr c31
                    subst c31
                    have H1 : (none) = some r := by rw [if_neg (show ¬ (false = true) by decide)] at H; exact H
                    clear H
                    have H := H1
                    clear H1
                    exact absurd H (by simp)
                · rw [if_neg c30] at H
                  exact absurd H (by simp)
              · rw [if_neg c29] at H
                exact absurd H (by simp)
      · rw [if_neg c6] at H
        exact absurd H (by simp)
    · rw [if_neg c5] at H
      exact absurd H (by simp)
  · rw [if_neg c4] at H
    exact absurd H (by simp)

/-- THE ONE PURE STATEMENT of phaetonlaw24_ImageBlocks: yours. -/
def phaetonlaw24_ImageBlocks.Pure : Prop := ∀ (l0 : List Int), l0.length ≤ maxLen → l0.length * 1 ≤ 140737488351232 → (∀ x ∈ l0, (Lit.int .u8 x).wf = true) → ∃ k, phaetonlaw24_ImageBlocks.f k l0 = some true
theorem phaetonlaw24_ImageBlocks.walk (P : phaetonlaw24_ImageBlocks.Pure) (a0 : Option Addr) (len0 cap0 : Nat) (z0 : List Int) (w : World) (w0 : (a0 = none ∧ len0 = 0 ∧ cap0 = 0 ∧ z0 = []) ∨ ∃ x, a0 = some x ∧ len0 ≤ cap0 ∧ cap0 ≤ maxLen ∧ z0.length = cap0 ∧ (∀ i, i < z0.length → w.cell? (x.add i) = some (.int .u8 (z0.getD i 0))) ∧ ∀ n ∈ z0, (Lit.int .u8 n).wf = true) (y0 : len0 * 1 ≤ 140737488351232) :
    Calls Try.prog 8 #[.slice a0 len0 cap0] w fun e w' => e = .returned (.bool true) ∧ Below w.heap.size w w' := by
  obtain ⟨l0, rfl, hr0, hm0, hw0, hc0⟩ := ReadsInt.ofRowC w0
  obtain ⟨k, h⟩ := P l0 hm0 y0 hw0
  refine (phaetonlaw24_ImageBlocks.calls k _ _ l0 true w (Kd.C_of_reads (d := (0 : Int)) (h1 := fun _ => rfl) hr0) hc0 h).mono ?_
  rintro e w' ⟨rfl, hd⟩
  exact ⟨rfl, hd⟩

end Go.Proofs.Ytfgbcpdlhdgofaa.Px

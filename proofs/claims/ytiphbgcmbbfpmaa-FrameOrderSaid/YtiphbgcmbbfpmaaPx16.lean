-- Written by myprint.py, a program of this session's, over the kit's print.py; not a text of print.sh's own.
import Derived.Test.YtiphbgcmbbfpmaaHandBox
import Derived.Test.YtiphbgcmbbfpmaaPx0
import Derived.Test.YtiphbgcmbbfpmaaPx2
import Derived.Test.YtiphbgcmbbfpmaaPx6
import Derived.Test.YtiphbgcmbbfpmaaPx7
namespace Go.Proofs.Ytiphbgcmbbfpmaa.Px
open Go.RowKit Go.Proofs.YtiphbgcmbbfpmaaW.PrintWords Go.Proofs.YtiphbgcmbbfpmaaW.PrintLast Go.Proofs.YtiphbgcmbbfpmaaW.PrintMore
attribute [local go_sem] max2_int min2_int max_two min_two max_three min_three max_four min_four   -- for this text's walks alone
set_option linter.unusedVariables false
set_option linter.unusedSimpArgs false

/-! ### phaetonlaw04_FrameOrder: function 7 -/
mutual
def phaetonlaw04_FrameOrder.j0 : Nat → Bool → Bool → Bool → Int → Bool → Int → List Int → Bool → Int → Bool → Int → List Int → Option (Bool)
  | 0, _, _, _, _, _, _, _, _, _, _, _, _ => none
  | k + 1, x5, x26, x517000, x517001, x517002, x517003, x517004, x518000, x518001, x518002, x518003, x518004 => if x26 = true then (if x5 = true then (some true) else (none)) else ((frame_Rank.f x517000 x517001 x517002 x517003 x517004).bind fun t523 => ((frame_Rank.f x518000 x518001 x518002 x518003 x518004).bind fun t526 => (phaetonlaw04_FrameOrder.l0 k x5 t523 t526 0 0 x517000 x517001 x517002 x517003 x517004 x518000 x518001 x518002 x518003 x518004)))
def phaetonlaw04_FrameOrder.j2 : Nat → Bool → Int → Bool → Int → Bool → Int → List Int → Bool → Int → Bool → Int → List Int → Option (Bool)
  | 0, _, _, _, _, _, _, _, _, _, _, _, _ => none
  | k + 1, x5, x8, x517000, x517001, x517002, x517003, x517004, x518000, x518001, x518002, x518003, x518004 => if (x517000 == x518000) = true then (phaetonlaw04_FrameOrder.j3 k x5 x8 (x517001 != x518001) x517000 x517001 x517002 x517003 x517004 x518000 x518001 x518002 x518003 x518004) else (phaetonlaw04_FrameOrder.j3 k x5 x8 false x517000 x517001 x517002 x517003 x517004 x518000 x518001 x518002 x518003 x518004)
def phaetonlaw04_FrameOrder.j3 : Nat → Bool → Int → Bool → Bool → Int → Bool → Int → List Int → Bool → Int → Bool → Int → List Int → Option (Bool)
  | 0, _, _, _, _, _, _, _, _, _, _, _, _, _ => none
  | k + 1, x5, x8, x68, x517000, x517001, x517002, x517003, x517004, x518000, x518001, x518002, x518003, x518004 => if x68 = true then (if x5 = true then (if ((decide (x8 < 0)) == (decide (x517001 < x518001))) = true then (if x8 = 0 then (none) else (some true)) else (none)) else (none)) else (if (x517000 == x518000) = true then (if x5 = true then (if x517002 = true then (if ((decide (x8 < 0)) == false) = true then (some true) else (none)) else (if ((decide (x8 < 0)) == x518002) = true then (some true) else (none))) else (none)) else (if x517000 = true then (if x5 = true then (if x8 = 0 then (none) else (some true)) else (none)) else (if x518000 = true then (if x517001 = (x518001 / 262144) then (if x5 = true then (if x8 < 0 then (some true) else (none)) else (none)) else (if x5 = true then (if x8 = 0 then (none) else (some true)) else (none))) else (if x5 = true then (if x8 = 0 then (none) else (some true)) else (none)))))
def phaetonlaw04_FrameOrder.l0 : Nat → Bool → List Int → List Int → Int → Int → Bool → Int → Bool → Int → List Int → Bool → Int → Bool → Int → List Int → Option (Bool)
  | 0, _, _, _, _, _, _, _, _, _, _, _, _, _, _, _ => none
  | k + 1, x5, x6, x7, x8, x9, x517000, x517001, x517002, x517003, x517004, x518000, x518001, x518002, x518003, x518004 => if x9 < (x6.length : Int) then (if x9 < (x7.length : Int) then (if x8 = 0 then (if 0 ≤ x9 then (phaetonlaw04_FrameOrder.l0 k x5 x6 x7 (wrap64 ((rd x6 x9) - (rd x7 x9))) (wrap64 (x9 + 1)) x517000 x517001 x517002 x517003 x517004 x518000 x518001 x518002 x518003 x518004) else (none)) else (phaetonlaw04_FrameOrder.j2 k x5 x8 x517000 x517001 x517002 x517003 x517004 x518000 x518001 x518002 x518003 x518004)) else (phaetonlaw04_FrameOrder.j2 k x5 x8 x517000 x517001 x517002 x517003 x517004 x518000 x518001 x518002 x518003 x518004)) else (phaetonlaw04_FrameOrder.j2 k x5 x8 x517000 x517001 x517002 x517003 x517004 x518000 x518001 x518002 x518003 x518004)
end
def phaetonlaw04_FrameOrder.f (k : Nat) (a0_0 : Bool) (a0_1 : Int) (a0_2 : Bool) (a0_3 : Int) (l0_4 : List Int) (a1_0 : Bool) (a1_1 : Int) (a1_2 : Bool) (a1_3 : Int) (l1_4 : List Int) : Option (Bool) := (phaetonlaw04_head.f k).bind fun t518 => ((phaetonlaw04_Great.f a0_0 a0_1 a0_2 a0_3 l0_4).bind fun t519 => (if t519 = true then (phaetonlaw04_FrameOrder.j0 k t518 true a0_0 a0_1 a0_2 a0_3 l0_4 a1_0 a1_1 a1_2 a1_3 l1_4) else ((phaetonlaw04_Great.f a1_0 a1_1 a1_2 a1_3 l1_4).bind fun t520 => (if t520 = true then (phaetonlaw04_FrameOrder.j0 k t518 true a0_0 a0_1 a0_2 a0_3 l0_4 a1_0 a1_1 a1_2 a1_3 l1_4) else ((phaetonref04_Right.f k a0_0 a0_1 a0_2 a0_3 l0_4).bind fun t521 => (if t521 = true then ((phaetonref04_Right.f k a1_0 a1_1 a1_2 a1_3 l1_4).bind fun t522 => (phaetonlaw04_FrameOrder.j0 k t518 (!t522) a0_0 a0_1 a0_2 a0_3 l0_4 a1_0 a1_1 a1_2 a1_3 l1_4)) else (phaetonlaw04_FrameOrder.j0 k t518 true a0_0 a0_1 a0_2 a0_3 l0_4 a1_0 a1_1 a1_2 a1_3 l1_4)))))))
theorem phaetonlaw04_FrameOrder.mono_l : ∀ k, (∀ y0 y1 y2 y3 y4 y5 y6 y7 y8 y9 y10 y11, LeO (phaetonlaw04_FrameOrder.j0 k y0 y1 y2 y3 y4 y5 y6 y7 y8 y9 y10 y11) (phaetonlaw04_FrameOrder.j0 (k + 1) y0 y1 y2 y3 y4 y5 y6 y7 y8 y9 y10 y11)) ∧ (∀ y0 y1 y2 y3 y4 y5 y6 y7 y8 y9 y10 y11, LeO (phaetonlaw04_FrameOrder.j2 k y0 y1 y2 y3 y4 y5 y6 y7 y8 y9 y10 y11) (phaetonlaw04_FrameOrder.j2 (k + 1) y0 y1 y2 y3 y4 y5 y6 y7 y8 y9 y10 y11)) ∧ (∀ y0 y1 y2 y3 y4 y5 y6 y7 y8 y9 y10 y11 y12, LeO (phaetonlaw04_FrameOrder.j3 k y0 y1 y2 y3 y4 y5 y6 y7 y8 y9 y10 y11 y12) (phaetonlaw04_FrameOrder.j3 (k + 1) y0 y1 y2 y3 y4 y5 y6 y7 y8 y9 y10 y11 y12)) ∧ (∀ y0 y1 y2 y3 y4 y5 y6 y7 y8 y9 y10 y11 y12 y13 y14, LeO (phaetonlaw04_FrameOrder.l0 k y0 y1 y2 y3 y4 y5 y6 y7 y8 y9 y10 y11 y12 y13 y14) (phaetonlaw04_FrameOrder.l0 (k + 1) y0 y1 y2 y3 y4 y5 y6 y7 y8 y9 y10 y11 y12 y13 y14))
  | 0 => ⟨fun _ _ _ _ _ _ _ _ _ _ _ _ r h => by simp [phaetonlaw04_FrameOrder.j0] at h, fun _ _ _ _ _ _ _ _ _ _ _ _ r h => by simp [phaetonlaw04_FrameOrder.j2] at h, fun _ _ _ _ _ _ _ _ _ _ _ _ _ r h => by simp [phaetonlaw04_FrameOrder.j3] at h, fun _ _ _ _ _ _ _ _ _ _ _ _ _ _ _ r h => by simp [phaetonlaw04_FrameOrder.l0] at h⟩
  | k + 1 => by
    obtain ⟨ih0, ih1, ih2, ih3⟩ := phaetonlaw04_FrameOrder.mono_l k
    refine ⟨?_, ?_, ?_, ?_⟩
    · intro y0 y1 y2 y3 y4 y5 y6 y7 y8 y9 y10 y11
      unfold phaetonlaw04_FrameOrder.j0
      repeat' first
      | (with_reducible exact ih0 _ _ _ _ _ _ _ _ _ _ _ _)
      | (with_reducible exact ih1 _ _ _ _ _ _ _ _ _ _ _ _)
      | (with_reducible exact ih2 _ _ _ _ _ _ _ _ _ _ _ _ _)
      | (with_reducible exact ih3 _ _ _ _ _ _ _ _ _ _ _ _ _ _ _)
      | (with_reducible exact phaetonlaw04_head.mono _)
      | (with_reducible exact phaetonref04_Right.mono _ _ _ _ _ _)
      | (with_reducible exact LeO.refl _)
      | (with_reducible exact LeO.none _)
      | (with_reducible refine LeO.ite ?_ ?_)
      | (with_reducible refine LeO.bind ?_ (fun _ => ?_))
      | exact ih0 _ _ _ _ _ _ _ _ _ _ _ _
      | exact ih1 _ _ _ _ _ _ _ _ _ _ _ _
      | exact ih2 _ _ _ _ _ _ _ _ _ _ _ _ _
      | exact ih3 _ _ _ _ _ _ _ _ _ _ _ _ _ _ _
      | exact phaetonlaw04_head.mono _
      | exact phaetonref04_Right.mono _ _ _ _ _ _
      | exact LeO.none _
      | refine LeO.ite ?_ ?_
      | refine LeO.bind ?_ (fun _ => ?_)
    · intro y0 y1 y2 y3 y4 y5 y6 y7 y8 y9 y10 y11
      unfold phaetonlaw04_FrameOrder.j2
      repeat' first
      | (with_reducible exact ih0 _ _ _ _ _ _ _ _ _ _ _ _)
      | (with_reducible exact ih1 _ _ _ _ _ _ _ _ _ _ _ _)
      | (with_reducible exact ih2 _ _ _ _ _ _ _ _ _ _ _ _ _)
      | (with_reducible exact ih3 _ _ _ _ _ _ _ _ _ _ _ _ _ _ _)
      | (with_reducible exact phaetonlaw04_head.mono _)
      | (with_reducible exact phaetonref04_Right.mono _ _ _ _ _ _)
      | (with_reducible exact LeO.refl _)
      | (with_reducible exact LeO.none _)
      | (with_reducible refine LeO.ite ?_ ?_)
      | (with_reducible refine LeO.bind ?_ (fun _ => ?_))
      | exact ih0 _ _ _ _ _ _ _ _ _ _ _ _
      | exact ih1 _ _ _ _ _ _ _ _ _ _ _ _
      | exact ih2 _ _ _ _ _ _ _ _ _ _ _ _ _
      | exact ih3 _ _ _ _ _ _ _ _ _ _ _ _ _ _ _
      | exact phaetonlaw04_head.mono _
      | exact phaetonref04_Right.mono _ _ _ _ _ _
      | exact LeO.none _
      | refine LeO.ite ?_ ?_
      | refine LeO.bind ?_ (fun _ => ?_)
    · intro y0 y1 y2 y3 y4 y5 y6 y7 y8 y9 y10 y11 y12
      unfold phaetonlaw04_FrameOrder.j3
      repeat' first
      | (with_reducible exact ih0 _ _ _ _ _ _ _ _ _ _ _ _)
      | (with_reducible exact ih1 _ _ _ _ _ _ _ _ _ _ _ _)
      | (with_reducible exact ih2 _ _ _ _ _ _ _ _ _ _ _ _ _)
      | (with_reducible exact ih3 _ _ _ _ _ _ _ _ _ _ _ _ _ _ _)
      | (with_reducible exact phaetonlaw04_head.mono _)
      | (with_reducible exact phaetonref04_Right.mono _ _ _ _ _ _)
      | (with_reducible exact LeO.refl _)
      | (with_reducible exact LeO.none _)
      | (with_reducible refine LeO.ite ?_ ?_)
      | (with_reducible refine LeO.bind ?_ (fun _ => ?_))
      | exact ih0 _ _ _ _ _ _ _ _ _ _ _ _
      | exact ih1 _ _ _ _ _ _ _ _ _ _ _ _
      | exact ih2 _ _ _ _ _ _ _ _ _ _ _ _ _
      | exact ih3 _ _ _ _ _ _ _ _ _ _ _ _ _ _ _
      | exact phaetonlaw04_head.mono _
      | exact phaetonref04_Right.mono _ _ _ _ _ _
      | exact LeO.none _
      | refine LeO.ite ?_ ?_
      | refine LeO.bind ?_ (fun _ => ?_)
    · intro y0 y1 y2 y3 y4 y5 y6 y7 y8 y9 y10 y11 y12 y13 y14
      unfold phaetonlaw04_FrameOrder.l0
      repeat' first
      | (with_reducible exact ih0 _ _ _ _ _ _ _ _ _ _ _ _)
      | (with_reducible exact ih1 _ _ _ _ _ _ _ _ _ _ _ _)
      | (with_reducible exact ih2 _ _ _ _ _ _ _ _ _ _ _ _ _)
      | (with_reducible exact ih3 _ _ _ _ _ _ _ _ _ _ _ _ _ _ _)
      | (with_reducible exact phaetonlaw04_head.mono _)
      | (with_reducible exact phaetonref04_Right.mono _ _ _ _ _ _)
      | (with_reducible exact LeO.refl _)
      | (with_reducible exact LeO.none _)
      | (with_reducible refine LeO.ite ?_ ?_)
      | (with_reducible refine LeO.bind ?_ (fun _ => ?_))
      | exact ih0 _ _ _ _ _ _ _ _ _ _ _ _
      | exact ih1 _ _ _ _ _ _ _ _ _ _ _ _
      | exact ih2 _ _ _ _ _ _ _ _ _ _ _ _ _
      | exact ih3 _ _ _ _ _ _ _ _ _ _ _ _ _ _ _
      | exact phaetonlaw04_head.mono _
      | exact phaetonref04_Right.mono _ _ _ _ _ _
      | exact LeO.none _
      | refine LeO.ite ?_ ?_
      | refine LeO.bind ?_ (fun _ => ?_)
theorem phaetonlaw04_FrameOrder.mono : ∀ a0 a1 a2 a3 a4 a5 a6 a7 a8 a9 k, LeO (phaetonlaw04_FrameOrder.f k a0 a1 a2 a3 a4 a5 a6 a7 a8 a9) (phaetonlaw04_FrameOrder.f (k + 1) a0 a1 a2 a3 a4 a5 a6 a7 a8 a9) := by
  intro a0 a1 a2 a3 a4 a5 a6 a7 a8 a9 k
  obtain ⟨ih0, ih1, ih2, ih3⟩ := phaetonlaw04_FrameOrder.mono_l k
  unfold phaetonlaw04_FrameOrder.f
  repeat' first
      | (with_reducible exact ih0 _ _ _ _ _ _ _ _ _ _ _ _)
      | (with_reducible exact ih1 _ _ _ _ _ _ _ _ _ _ _ _)
      | (with_reducible exact ih2 _ _ _ _ _ _ _ _ _ _ _ _ _)
      | (with_reducible exact ih3 _ _ _ _ _ _ _ _ _ _ _ _ _ _ _)
      | (with_reducible exact phaetonlaw04_head.mono _)
      | (with_reducible exact phaetonref04_Right.mono _ _ _ _ _ _)
      | (with_reducible exact LeO.refl _)
      | (with_reducible exact LeO.none _)
      | (with_reducible refine LeO.ite ?_ ?_)
      | (with_reducible refine LeO.bind ?_ (fun _ => ?_))
      | exact ih0 _ _ _ _ _ _ _ _ _ _ _ _
      | exact ih1 _ _ _ _ _ _ _ _ _ _ _ _
      | exact ih2 _ _ _ _ _ _ _ _ _ _ _ _ _
      | exact ih3 _ _ _ _ _ _ _ _ _ _ _ _ _ _ _
      | exact phaetonlaw04_head.mono _
      | exact phaetonref04_Right.mono _ _ _ _ _ _
      | exact LeO.none _
      | refine LeO.ite ?_ ?_
      | refine LeO.bind ?_ (fun _ => ?_)
set_option maxHeartbeats 8000000 in
set_option maxRecDepth 100000 in
theorem phaetonlaw04_FrameOrder.calls (k : Nat) (a0_0 : Bool) (a0_1 : Int) (a0_2 : Bool) (a0_3 : Int) (A0_4 : Option Addr) (c0_4 : Nat) (l0_4 : List Int) (a1_0 : Bool) (a1_1 : Int) (a1_2 : Bool) (a1_3 : Int) (A1_4 : Option Addr) (c1_4 : Nat) (l1_4 : List Int) (r : Bool) (w : World) (hr0_4 : Kd.C (Kd.int .u8) w A0_4 l0_4.length l0_4) (hc0_4 : l0_4.length ≤ c0_4) (hr1_4 : Kd.C (Kd.int .u8) w A1_4 l1_4.length l1_4) (hc1_4 : l1_4.length ≤ c1_4) (h : phaetonlaw04_FrameOrder.f k a0_0 a0_1 a0_2 a0_3 l0_4 a1_0 a1_1 a1_2 a1_3 l1_4 = some r) :
    Calls Try.prog 7 #[.agg #[.bool a0_0, .int .i64 a0_1, .bool a0_2, .int .i64 a0_3, .slice A0_4 l0_4.length c0_4], .agg #[.bool a1_0, .int .i64 a1_1, .bool a1_2, .int .i64 a1_3, .slice A1_4 l1_4.length c1_4]] w fun e w' => e = .returned (.bool r) ∧ Below w.heap.size w w' := by
  have hu24 := Try.underlying24
  have HR0_4 := Aside0.mk hr0_4
  have HC0_4 := Aside0.mk hc0_4
  clear hr0_4 hc0_4
  have HR1_4 := Aside0.mk hr1_4
  have HC1_4 := Aside0.mk hc1_4
  clear hr1_4 hc1_4
  have HB := Aside0.mk (Below.refl w.heap.size w)
  have H : ((phaetonlaw04_head.f k).bind fun t518 => ((phaetonlaw04_Great.f a0_0 a0_1 a0_2 a0_3 l0_4).bind fun t519 => (if t519 = true then (phaetonlaw04_FrameOrder.j0 k t518 true a0_0 a0_1 a0_2 a0_3 l0_4 a1_0 a1_1 a1_2 a1_3 l1_4) else ((phaetonlaw04_Great.f a1_0 a1_1 a1_2 a1_3 l1_4).bind fun t520 => (if t520 = true then (phaetonlaw04_FrameOrder.j0 k t518 true a0_0 a0_1 a0_2 a0_3 l0_4 a1_0 a1_1 a1_2 a1_3 l1_4) else ((phaetonref04_Right.f k a0_0 a0_1 a0_2 a0_3 l0_4).bind fun t521 => (if t521 = true then ((phaetonref04_Right.f k a1_0 a1_1 a1_2 a1_3 l1_4).bind fun t522 => (phaetonlaw04_FrameOrder.j0 k t518 (!t522) a0_0 a0_1 a0_2 a0_3 l0_4 a1_0 a1_1 a1_2 a1_3 l1_4)) else (phaetonlaw04_FrameOrder.j0 k t518 true a0_0 a0_1 a0_2 a0_3 l0_4 a1_0 a1_1 a1_2 a1_3 l1_4)))))))) = some r := h
  clear h
  replace H := Option.bind_eq_some_iff.mp H
  obtain ⟨t518, A30, H⟩ := H
  replace H : ((phaetonlaw04_Great.f a0_0 a0_1 a0_2 a0_3 l0_4).bind fun t519 => (if t519 = true then (phaetonlaw04_FrameOrder.j0 k t518 true a0_0 a0_1 a0_2 a0_3 l0_4 a1_0 a1_1 a1_2 a1_3 l1_4) else ((phaetonlaw04_Great.f a1_0 a1_1 a1_2 a1_3 l1_4).bind fun t520 => (if t520 = true then (phaetonlaw04_FrameOrder.j0 k t518 true a0_0 a0_1 a0_2 a0_3 l0_4 a1_0 a1_1 a1_2 a1_3 l1_4) else ((phaetonref04_Right.f k a0_0 a0_1 a0_2 a0_3 l0_4).bind fun t521 => (if t521 = true then ((phaetonref04_Right.f k a1_0 a1_1 a1_2 a1_3 l1_4).bind fun t522 => (phaetonlaw04_FrameOrder.j0 k t518 (!t522) a0_0 a0_1 a0_2 a0_3 l0_4 a1_0 a1_1 a1_2 a1_3 l1_4)) else (phaetonlaw04_FrameOrder.j0 k t518 true a0_0 a0_1 a0_2 a0_3 l0_4 a1_0 a1_1 a1_2 a1_3 l1_4))))))) = some r := H
  have A3 := Aside0.mk A30
  clear A30
  have HC4 := Aside0.mk H
  clear H
  go_enter Try.func7, Try.ntmps7
  (try simp only [List.append])
  go_upto_region 2 with (first | ((with_reducible refine gate_dst (N := 2) rfl ?_); (try (refine gate_guard (by rfl) ?_; dsimp only)); refine box_event ?hg (N := 2) ?hd (cs := #[.bool a0_0, .int .i64 a0_1, .bool a0_2, .int .i64 a0_3, .slice A0_4 l0_4.length c0_4]) (t := 24) ?hr ?_; (case hd => rfl); (case hg => rfl); (case hr => first | (go_simp; done) | (go_simp; rfl)); intro gb516 hg w5 hbox hb; have n0_ := Aside0.mk (below_step (by repeat (first | (with_reducible first | exact HB.out | apply below_alloc | apply pw_below_drewN | apply below_drew1) | exact HB.out)) hb); have n1_ := Aside0.mk (hbox); have n2_ := Aside0.mk ((by rw [hg]; exact (below_size (by repeat (first | (with_reducible first | exact HB.out | apply below_alloc | apply pw_below_drewN | apply below_drew1) | exact HB.out))) : w.heap.size ≤ gb516)); have n3_ := Aside0.mk ((by rw [hg]; exact (below_size (by repeat (first | (with_reducible first | exact HB.out | apply below_alloc | apply pw_below_drewN | apply below_drew1) | exact HB.out))) : w.heap.size ≤ gb516)); clear HB; have HB := n0_; have BK516 := n1_; have GW516 := n2_; have GE516 := n3_; clear n0_ n1_ n2_ n3_; clear hb hbox hg) | ((with_reducible refine gate_dst (N := 3) rfl ?_); (try (refine gate_guard (by rfl) ?_; dsimp only)); refine box_event ?hg (N := 3) ?hd (cs := #[.bool a1_0, .int .i64 a1_1, .bool a1_2, .int .i64 a1_3, .slice A1_4 l1_4.length c1_4]) (t := 24) ?hr ?_; (case hd => rfl); (case hg => rfl); (case hr => first | (go_simp; done) | (go_simp; rfl)); intro gb517 hg w6 hbox hb; have n0_ := Aside0.mk (blk_below (g := gb516) (o := .cells #[.bool a0_0, .int .i64 a0_1, .bool a0_2, .int .i64 a0_3, .slice A0_4 l0_4.length c0_4] 24 (0, 0)) (by (with_reducible repeat (first | refine blk_drewN ?_ _ | refine blk_drew ?_ | refine blk_alloc ?_ _)); exact BK516.out) hb); have n1_ := Aside0.mk (below_step (by repeat (first | (with_reducible first | exact HB.out | apply below_alloc | apply pw_below_drewN | apply below_drew1 | refine below_set ?_ GE516.out) | exact HB.out)) hb); have n2_ := Aside0.mk (hbox); have n3_ := Aside0.mk ((by rw [hg]; exact (below_size (by repeat (first | (with_reducible first | exact HB.out | apply below_alloc | apply pw_below_drewN | apply below_drew1 | refine below_set ?_ GE516.out) | exact HB.out))) : w.heap.size ≤ gb517)); have n4_ := Aside0.mk ((by rw [hg]; exact (below_size (by repeat (first | (with_reducible first | exact HB.out | apply below_alloc | apply pw_below_drewN | apply below_drew1 | refine below_set ?_ GE516.out) | exact HB.out))) : w.heap.size ≤ gb517)); have n5_ := Aside0.mk ((by rw [hg]; exact Nat.ne_of_lt (blk_lt (g := gb516) (o := .cells #[.bool a0_0, .int .i64 a0_1, .bool a0_2, .int .i64 a0_3, .slice A0_4 l0_4.length c0_4] 24 (0, 0)) (by (with_reducible repeat (first | refine blk_drewN ?_ _ | refine blk_drew ?_ | refine blk_alloc ?_ _)); exact BK516.out)) : gb516 ≠ gb517)); have n6_ := Aside0.mk ((by rw [hg]; exact Nat.ne_of_gt (blk_lt (g := gb516) (o := .cells #[.bool a0_0, .int .i64 a0_1, .bool a0_2, .int .i64 a0_3, .slice A0_4 l0_4.length c0_4] 24 (0, 0)) (by (with_reducible repeat (first | refine blk_drewN ?_ _ | refine blk_drew ?_ | refine blk_alloc ?_ _)); exact BK516.out)) : gb517 ≠ gb516)); clear BK516; clear HB; have BK516 := n0_; have HB := n1_; have BK517 := n2_; have GW517 := n3_; have GE517 := n4_; have NB516_517 := n5_; have NB517_516 := n6_; clear n0_ n1_ n2_ n3_ n4_ n5_ n6_; clear hb hbox hg) | (go_at_call 10; (with_reducible refine (phaetonlaw04_head.calls k  t518 _ A3.out).mono ?_); rintro e w7 ⟨rfl, hb⟩; have n0_ := Aside0.mk (blk_below (g := gb516) (o := .cells #[.bool a0_0, .int .i64 a0_1, .bool a0_2, .int .i64 a0_3, .slice A0_4 l0_4.length c0_4] 24 (0, 0)) (by (with_reducible repeat (first | refine blk_drewN ?_ _ | refine blk_drew ?_ | refine blk_alloc ?_ _)); exact BK516.out) hb); have n1_ := Aside0.mk (blk_below (g := gb517) (o := .cells #[.bool a1_0, .int .i64 a1_1, .bool a1_2, .int .i64 a1_3, .slice A1_4 l1_4.length c1_4] 24 (0, 0)) (by (with_reducible repeat (first | refine blk_drewN ?_ _ | refine blk_drew ?_ | refine blk_alloc ?_ _)); exact BK517.out) hb); have n2_ := Aside0.mk (below_step (by repeat (first | (with_reducible first | exact HB.out | apply below_alloc | apply pw_below_drewN | apply below_drew1 | refine below_set ?_ GE516.out | refine below_set ?_ GE517.out) | exact HB.out)) hb); clear BK516; clear BK517; clear HB; have BK516 := n0_; have BK517 := n1_; have HB := n2_; clear n0_ n1_ n2_; (try clear hb); (try clear hb2); (try clear hk); (try clear hi)))
  repeat (go_quiet (first | ((with_reducible refine gate_dst (N := 2) rfl ?_); (try (refine gate_guard (by rfl) ?_; dsimp only)); refine box_event ?hg (N := 2) ?hd (cs := #[.bool a0_0, .int .i64 a0_1, .bool a0_2, .int .i64 a0_3, .slice A0_4 l0_4.length c0_4]) (t := 24) ?hr ?_; (case hd => rfl); (case hg => rfl); (case hr => first | (go_simp; done) | (go_simp; rfl)); intro gb516 hg w5 hbox hb; have n0_ := Aside0.mk (below_step (by repeat (first | (with_reducible first | exact HB.out | apply below_alloc | apply pw_below_drewN | apply below_drew1) | exact HB.out)) hb); have n1_ := Aside0.mk (hbox); have n2_ := Aside0.mk ((by rw [hg]; exact (below_size (by repeat (first | (with_reducible first | exact HB.out | apply below_alloc | apply pw_below_drewN | apply below_drew1) | exact HB.out))) : w.heap.size ≤ gb516)); have n3_ := Aside0.mk ((by rw [hg]; exact (below_size (by repeat (first | (with_reducible first | exact HB.out | apply below_alloc | apply pw_below_drewN | apply below_drew1) | exact HB.out))) : w.heap.size ≤ gb516)); clear HB; have HB := n0_; have BK516 := n1_; have GW516 := n2_; have GE516 := n3_; clear n0_ n1_ n2_ n3_; clear hb hbox hg) | ((with_reducible refine gate_dst (N := 3) rfl ?_); (try (refine gate_guard (by rfl) ?_; dsimp only)); refine box_event ?hg (N := 3) ?hd (cs := #[.bool a1_0, .int .i64 a1_1, .bool a1_2, .int .i64 a1_3, .slice A1_4 l1_4.length c1_4]) (t := 24) ?hr ?_; (case hd => rfl); (case hg => rfl); (case hr => first | (go_simp; done) | (go_simp; rfl)); intro gb517 hg w6 hbox hb; have n0_ := Aside0.mk (blk_below (g := gb516) (o := .cells #[.bool a0_0, .int .i64 a0_1, .bool a0_2, .int .i64 a0_3, .slice A0_4 l0_4.length c0_4] 24 (0, 0)) (by (with_reducible repeat (first | refine blk_drewN ?_ _ | refine blk_drew ?_ | refine blk_alloc ?_ _)); exact BK516.out) hb); have n1_ := Aside0.mk (below_step (by repeat (first | (with_reducible first | exact HB.out | apply below_alloc | apply pw_below_drewN | apply below_drew1 | refine below_set ?_ GE516.out) | exact HB.out)) hb); have n2_ := Aside0.mk (hbox); have n3_ := Aside0.mk ((by rw [hg]; exact (below_size (by repeat (first | (with_reducible first | exact HB.out | apply below_alloc | apply pw_below_drewN | apply below_drew1 | refine below_set ?_ GE516.out) | exact HB.out))) : w.heap.size ≤ gb517)); have n4_ := Aside0.mk ((by rw [hg]; exact (below_size (by repeat (first | (with_reducible first | exact HB.out | apply below_alloc | apply pw_below_drewN | apply below_drew1 | refine below_set ?_ GE516.out) | exact HB.out))) : w.heap.size ≤ gb517)); have n5_ := Aside0.mk ((by rw [hg]; exact Nat.ne_of_lt (blk_lt (g := gb516) (o := .cells #[.bool a0_0, .int .i64 a0_1, .bool a0_2, .int .i64 a0_3, .slice A0_4 l0_4.length c0_4] 24 (0, 0)) (by (with_reducible repeat (first | refine blk_drewN ?_ _ | refine blk_drew ?_ | refine blk_alloc ?_ _)); exact BK516.out)) : gb516 ≠ gb517)); have n6_ := Aside0.mk ((by rw [hg]; exact Nat.ne_of_gt (blk_lt (g := gb516) (o := .cells #[.bool a0_0, .int .i64 a0_1, .bool a0_2, .int .i64 a0_3, .slice A0_4 l0_4.length c0_4] 24 (0, 0)) (by (with_reducible repeat (first | refine blk_drewN ?_ _ | refine blk_drew ?_ | refine blk_alloc ?_ _)); exact BK516.out)) : gb517 ≠ gb516)); clear BK516; clear HB; have BK516 := n0_; have HB := n1_; have BK517 := n2_; have GW517 := n3_; have GE517 := n4_; have NB516_517 := n5_; have NB517_516 := n6_; clear n0_ n1_ n2_ n3_ n4_ n5_ n6_; clear hb hbox hg) | (go_at_call 10; (with_reducible refine (phaetonlaw04_head.calls k  t518 _ A3.out).mono ?_); rintro e w7 ⟨rfl, hb⟩; have n0_ := Aside0.mk (blk_below (g := gb516) (o := .cells #[.bool a0_0, .int .i64 a0_1, .bool a0_2, .int .i64 a0_3, .slice A0_4 l0_4.length c0_4] 24 (0, 0)) (by (with_reducible repeat (first | refine blk_drewN ?_ _ | refine blk_drew ?_ | refine blk_alloc ?_ _)); exact BK516.out) hb); have n1_ := Aside0.mk (blk_below (g := gb517) (o := .cells #[.bool a1_0, .int .i64 a1_1, .bool a1_2, .int .i64 a1_3, .slice A1_4 l1_4.length c1_4] 24 (0, 0)) (by (with_reducible repeat (first | refine blk_drewN ?_ _ | refine blk_drew ?_ | refine blk_alloc ?_ _)); exact BK517.out) hb); have n2_ := Aside0.mk (below_step (by repeat (first | (with_reducible first | exact HB.out | apply below_alloc | apply pw_below_drewN | apply below_drew1 | refine below_set ?_ GE516.out | refine below_set ?_ GE517.out) | exact HB.out)) hb); clear BK516; clear BK517; clear HB; have BK516 := n0_; have BK517 := n1_; have HB := n2_; clear n0_ n1_ n2_; (try clear hb); (try clear hb2); (try clear hk); (try clear hi))); go_upto_region 2 with (first | ((with_reducible refine gate_dst (N := 2) rfl ?_); (try (refine gate_guard (by rfl) ?_; dsimp only)); refine box_event ?hg (N := 2) ?hd (cs := #[.bool a0_0, .int .i64 a0_1, .bool a0_2, .int .i64 a0_3, .slice A0_4 l0_4.length c0_4]) (t := 24) ?hr ?_; (case hd => rfl); (case hg => rfl); (case hr => first | (go_simp; done) | (go_simp; rfl)); intro gb516 hg w5 hbox hb; have n0_ := Aside0.mk (below_step (by repeat (first | (with_reducible first | exact HB.out | apply below_alloc | apply pw_below_drewN | apply below_drew1) | exact HB.out)) hb); have n1_ := Aside0.mk (hbox); have n2_ := Aside0.mk ((by rw [hg]; exact (below_size (by repeat (first | (with_reducible first | exact HB.out | apply below_alloc | apply pw_below_drewN | apply below_drew1) | exact HB.out))) : w.heap.size ≤ gb516)); have n3_ := Aside0.mk ((by rw [hg]; exact (below_size (by repeat (first | (with_reducible first | exact HB.out | apply below_alloc | apply pw_below_drewN | apply below_drew1) | exact HB.out))) : w.heap.size ≤ gb516)); clear HB; have HB := n0_; have BK516 := n1_; have GW516 := n2_; have GE516 := n3_; clear n0_ n1_ n2_ n3_; clear hb hbox hg) | ((with_reducible refine gate_dst (N := 3) rfl ?_); (try (refine gate_guard (by rfl) ?_; dsimp only)); refine box_event ?hg (N := 3) ?hd (cs := #[.bool a1_0, .int .i64 a1_1, .bool a1_2, .int .i64 a1_3, .slice A1_4 l1_4.length c1_4]) (t := 24) ?hr ?_; (case hd => rfl); (case hg => rfl); (case hr => first | (go_simp; done) | (go_simp; rfl)); intro gb517 hg w6 hbox hb; have n0_ := Aside0.mk (blk_below (g := gb516) (o := .cells #[.bool a0_0, .int .i64 a0_1, .bool a0_2, .int .i64 a0_3, .slice A0_4 l0_4.length c0_4] 24 (0, 0)) (by (with_reducible repeat (first | refine blk_drewN ?_ _ | refine blk_drew ?_ | refine blk_alloc ?_ _)); exact BK516.out) hb); have n1_ := Aside0.mk (below_step (by repeat (first | (with_reducible first | exact HB.out | apply below_alloc | apply pw_below_drewN | apply below_drew1 | refine below_set ?_ GE516.out) | exact HB.out)) hb); have n2_ := Aside0.mk (hbox); have n3_ := Aside0.mk ((by rw [hg]; exact (below_size (by repeat (first | (with_reducible first | exact HB.out | apply below_alloc | apply pw_below_drewN | apply below_drew1 | refine below_set ?_ GE516.out) | exact HB.out))) : w.heap.size ≤ gb517)); have n4_ := Aside0.mk ((by rw [hg]; exact (below_size (by repeat (first | (with_reducible first | exact HB.out | apply below_alloc | apply pw_below_drewN | apply below_drew1 | refine below_set ?_ GE516.out) | exact HB.out))) : w.heap.size ≤ gb517)); have n5_ := Aside0.mk ((by rw [hg]; exact Nat.ne_of_lt (blk_lt (g := gb516) (o := .cells #[.bool a0_0, .int .i64 a0_1, .bool a0_2, .int .i64 a0_3, .slice A0_4 l0_4.length c0_4] 24 (0, 0)) (by (with_reducible repeat (first | refine blk_drewN ?_ _ | refine blk_drew ?_ | refine blk_alloc ?_ _)); exact BK516.out)) : gb516 ≠ gb517)); have n6_ := Aside0.mk ((by rw [hg]; exact Nat.ne_of_gt (blk_lt (g := gb516) (o := .cells #[.bool a0_0, .int .i64 a0_1, .bool a0_2, .int .i64 a0_3, .slice A0_4 l0_4.length c0_4] 24 (0, 0)) (by (with_reducible repeat (first | refine blk_drewN ?_ _ | refine blk_drew ?_ | refine blk_alloc ?_ _)); exact BK516.out)) : gb517 ≠ gb516)); clear BK516; clear HB; have BK516 := n0_; have HB := n1_; have BK517 := n2_; have GW517 := n3_; have GE517 := n4_; have NB516_517 := n5_; have NB517_516 := n6_; clear n0_ n1_ n2_ n3_ n4_ n5_ n6_; clear hb hbox hg) | (go_at_call 10; (with_reducible refine (phaetonlaw04_head.calls k  t518 _ A3.out).mono ?_); rintro e w7 ⟨rfl, hb⟩; have n0_ := Aside0.mk (blk_below (g := gb516) (o := .cells #[.bool a0_0, .int .i64 a0_1, .bool a0_2, .int .i64 a0_3, .slice A0_4 l0_4.length c0_4] 24 (0, 0)) (by (with_reducible repeat (first | refine blk_drewN ?_ _ | refine blk_drew ?_ | refine blk_alloc ?_ _)); exact BK516.out) hb); have n1_ := Aside0.mk (blk_below (g := gb517) (o := .cells #[.bool a1_0, .int .i64 a1_1, .bool a1_2, .int .i64 a1_3, .slice A1_4 l1_4.length c1_4] 24 (0, 0)) (by (with_reducible repeat (first | refine blk_drewN ?_ _ | refine blk_drew ?_ | refine blk_alloc ?_ _)); exact BK517.out) hb); have n2_ := Aside0.mk (below_step (by repeat (first | (with_reducible first | exact HB.out | apply below_alloc | apply pw_below_drewN | apply below_drew1 | refine below_set ?_ GE516.out | refine below_set ?_ GE517.out) | exact HB.out)) hb); clear BK516; clear BK517; clear HB; have BK516 := n0_; have BK517 := n1_; have HB := n2_; clear n0_ n1_ n2_; (try clear hb); (try clear hb2); (try clear hk); (try clear hi))))
  (try simp only [Act.put, List.setIfInBounds_toArray, List.set_cons_zero, List.set_cons_succ])
  go_cut [26] (fun v26 wc => ∃ (kq : Nat) (x26_3 : Bool), v26 = .bool x26_3 ∧ Aside0 (phaetonlaw04_FrameOrder.j0 kq t518 x26_3 a0_0 a0_1 a0_2 a0_3 l0_4 a1_0 a1_1 a1_2 a1_3 l1_4 = some r) ∧ Aside0 (kq ≤ k) ∧ Aside0 (wc.heap[gb516]? = some (.cells #[.bool a0_0, .int .i64 a0_1, .bool a0_2, .int .i64 a0_3, (.slice A0_4 l0_4.length c0_4)] 24 (0, 0))) ∧ Aside0 (wc.heap[gb517]? = some (.cells #[.bool a1_0, .int .i64 a1_1, .bool a1_2, .int .i64 a1_3, (.slice A1_4 l1_4.length c1_4)] 24 (0, 0))) ∧ Aside0 (Below w.heap.size w wc))
  case first =>
    have H := HC4.out
    clear HC4
    replace H := Option.bind_eq_some_iff.mp H
    obtain ⟨t519, A80, H⟩ := H
    replace H : (if t519 = true then (phaetonlaw04_FrameOrder.j0 k t518 true a0_0 a0_1 a0_2 a0_3 l0_4 a1_0 a1_1 a1_2 a1_3 l1_4) else ((phaetonlaw04_Great.f a1_0 a1_1 a1_2 a1_3 l1_4).bind fun t520 => (if t520 = true then (phaetonlaw04_FrameOrder.j0 k t518 true a0_0 a0_1 a0_2 a0_3 l0_4 a1_0 a1_1 a1_2 a1_3 l1_4) else ((phaetonref04_Right.f k a0_0 a0_1 a0_2 a0_3 l0_4).bind fun t521 => (if t521 = true then ((phaetonref04_Right.f k a1_0 a1_1 a1_2 a1_3 l1_4).bind fun t522 => (phaetonlaw04_FrameOrder.j0 k t518 (!t522) a0_0 a0_1 a0_2 a0_3 l0_4 a1_0 a1_1 a1_2 a1_3 l1_4)) else (phaetonlaw04_FrameOrder.j0 k t518 true a0_0 a0_1 a0_2 a0_3 l0_4 a1_0 a1_1 a1_2 a1_3 l1_4)))))) = some r := H
    have A8 := Aside0.mk A80
    clear A80
    by_cases c9 : t519 = true
    · subst c9
      have H1 : (phaetonlaw04_FrameOrder.j0 k t518 true a0_0 a0_1 a0_2 a0_3 l0_4 a1_0 a1_1 a1_2 a1_3 l1_4) = some r := by rw [if_pos rfl] at H; exact H
      clear H
      have H := H1
      clear H1
      have H' := Aside0.mk H
      clear H
      have hnb10 := NB516_517.out
      have hnc10 := NB517_516.out
      have hcz11_0 : w7.cell? ⟨gb516, 0, none⟩ = some (.bool a0_0) := (blk_cell BK516.out 0).trans rfl
      have hcz11_1 : w7.cell? ⟨gb516, 1, none⟩ = some (.int .i64 a0_1) := (blk_cell BK516.out 1).trans rfl
      have hcz11_2 : w7.cell? ⟨gb516, 2, none⟩ = some (.bool a0_2) := (blk_cell BK516.out 2).trans rfl
      have hcz11_3 : w7.cell? ⟨gb516, 3, none⟩ = some (.int .i64 a0_3) := (blk_cell BK516.out 3).trans rfl
      have hcz11_4 : w7.cell? ⟨gb516, 4, none⟩ = some (.slice A0_4 l0_4.length c0_4) := (blk_cell BK516.out 4).trans rfl
      have hfz11_0 := blk_frozen BK516.out 0
      have hfz11_1 := blk_frozen BK516.out 1
      have hfz11_2 := blk_frozen BK516.out 2
      have hfz11_3 := blk_frozen BK516.out 3
      have hfz11_4 := blk_frozen BK516.out 4
      go_wp2_with (first | ((with_reducible refine gate_store (t := 24) (p := 3) rfl ?_); refine HW.store_box2 rfl rfl 24 _ _ rfl rfl rfl BK517.out rfl (by kernel_rfl) (by intro q hq; simp only [List.mem_cons, List.not_mem_nil, or_false] at hq; rcases hq with rfl | rfl | rfl | rfl | rfl <;> rfl) ?_; intro w1_ hw1_ hk1_; simp only [List.toList_toArray, World.setCells, Nat.zero_add, Nat.reduceAdd] at hw1_; subst hw1_; have hcb517_0 := (blk_cell hk1_ 0).trans rfl; have hfb517_0 := blk_frozen hk1_ 0; have hcb517_1 := (blk_cell hk1_ 1).trans rfl; have hfb517_1 := blk_frozen hk1_ 1; have hcb517_2 := (blk_cell hk1_ 2).trans rfl; have hfb517_2 := blk_frozen hk1_ 2; have hcb517_3 := (blk_cell hk1_ 3).trans rfl; have hfb517_3 := blk_frozen hk1_ 3; have hcb517_4 := (blk_cell hk1_ 4).trans rfl; have hfb517_4 := blk_frozen hk1_ 4; clear hk1_) | ((with_reducible refine gate_store (t := 24) (p := 2) rfl ?_); refine HW.store_box2 rfl rfl 24 _ _ rfl rfl rfl BK516.out rfl (by kernel_rfl) (by intro q hq; simp only [List.mem_cons, List.not_mem_nil, or_false] at hq; rcases hq with rfl | rfl | rfl | rfl | rfl <;> rfl) ?_; intro w1_ hw1_ hk1_; simp only [List.toList_toArray, World.setCells, Nat.zero_add, Nat.reduceAdd] at hw1_; subst hw1_; have hcb516_0 := (blk_cell hk1_ 0).trans rfl; have hfb516_0 := blk_frozen hk1_ 0; have hcb516_1 := (blk_cell hk1_ 1).trans rfl; have hfb516_1 := blk_frozen hk1_ 1; have hcb516_2 := (blk_cell hk1_ 2).trans rfl; have hfb516_2 := blk_frozen hk1_ 2; have hcb516_3 := (blk_cell hk1_ 3).trans rfl; have hfb516_3 := blk_frozen hk1_ 3; have hcb516_4 := (blk_cell hk1_ 4).trans rfl; have hfb516_4 := blk_frozen hk1_ 4; clear hk1_) | (go_at_call 11; (with_reducible refine (phaetonlaw04_Great.calls a0_0 a0_1 a0_2 a0_3 _ _ l0_4 true _ ?side1 ?side2 A8.out).mono ?_); (case side1 => repeat (first | exact (Kd.C_below HR0_4.out HB.out) | (with_reducible refine Kd.C_alloc ?_ _) | (with_reducible refine Kd.C_drewN ?_ _) | (with_reducible refine Kd.C_drew ?_))); (case side2 => exact HC0_4.out); rintro e w12 ⟨rfl, hb⟩; have n0_ := Aside0.mk (blk_below (g := gb516) (o := .cells #[.bool a0_0, .int .i64 a0_1, .bool a0_2, .int .i64 a0_3, .slice A0_4 l0_4.length c0_4] 24 (0, 0)) (by (with_reducible repeat (first | refine blk_drewN ?_ _ | refine blk_drew ?_ | refine blk_alloc ?_ _)); exact BK516.out) hb); have n1_ := Aside0.mk (blk_below (g := gb517) (o := .cells #[.bool a1_0, .int .i64 a1_1, .bool a1_2, .int .i64 a1_3, .slice A1_4 l1_4.length c1_4] 24 (0, 0)) (by (with_reducible repeat (first | refine blk_drewN ?_ _ | refine blk_drew ?_ | refine blk_alloc ?_ _)); exact BK517.out) hb); have n2_ := Aside0.mk (below_step (by repeat (first | (with_reducible first | exact HB.out | apply below_alloc | apply pw_below_drewN | apply below_drew1 | refine below_set ?_ GE516.out | refine below_set ?_ GE517.out) | exact HB.out)) hb); clear BK516; clear BK517; clear HB; have BK516 := n0_; have BK517 := n1_; have HB := n2_; clear n0_ n1_ n2_; (try clear hb); (try clear hb2); (try clear hk); (try clear hi)))
      repeat (go_quiet (first | (go_at_call 11; (with_reducible refine (phaetonlaw04_Great.calls a0_0 a0_1 a0_2 a0_3 _ _ l0_4 true _ ?side1 ?side2 A8.out).mono ?_); (case side1 => repeat (first | exact (Kd.C_below HR0_4.out HB.out) | (with_reducible refine Kd.C_alloc ?_ _) | (with_reducible refine Kd.C_drewN ?_ _) | (with_reducible refine Kd.C_drew ?_))); (case side2 => exact HC0_4.out); rintro e w12 ⟨rfl, hb⟩; have n0_ := Aside0.mk (blk_below (g := gb516) (o := .cells #[.bool a0_0, .int .i64 a0_1, .bool a0_2, .int .i64 a0_3, .slice A0_4 l0_4.length c0_4] 24 (0, 0)) (by (with_reducible repeat (first | refine blk_drewN ?_ _ | refine blk_drew ?_ | refine blk_alloc ?_ _)); exact BK516.out) hb); have n1_ := Aside0.mk (blk_below (g := gb517) (o := .cells #[.bool a1_0, .int .i64 a1_1, .bool a1_2, .int .i64 a1_3, .slice A1_4 l1_4.length c1_4] 24 (0, 0)) (by (with_reducible repeat (first | refine blk_drewN ?_ _ | refine blk_drew ?_ | refine blk_alloc ?_ _)); exact BK517.out) hb); have n2_ := Aside0.mk (below_step (by repeat (first | (with_reducible first | exact HB.out | apply below_alloc | apply pw_below_drewN | apply below_drew1 | refine below_set ?_ GE516.out | refine below_set ?_ GE517.out) | exact HB.out)) hb); clear BK516; clear BK517; clear HB; have BK516 := n0_; have BK517 := n1_; have HB := n2_; clear n0_ n1_ n2_; (try clear hb); (try clear hb2); (try clear hk); (try clear hi))); try go_wp2_with (first | (go_at_call 11; (with_reducible refine (phaetonlaw04_Great.calls a0_0 a0_1 a0_2 a0_3 _ _ l0_4 true _ ?side1 ?side2 A8.out).mono ?_); (case side1 => repeat (first | exact (Kd.C_below HR0_4.out HB.out) | (with_reducible refine Kd.C_alloc ?_ _) | (with_reducible refine Kd.C_drewN ?_ _) | (with_reducible refine Kd.C_drew ?_))); (case side2 => exact HC0_4.out); rintro e w12 ⟨rfl, hb⟩; have n0_ := Aside0.mk (blk_below (g := gb516) (o := .cells #[.bool a0_0, .int .i64 a0_1, .bool a0_2, .int .i64 a0_3, .slice A0_4 l0_4.length c0_4] 24 (0, 0)) (by (with_reducible repeat (first | refine blk_drewN ?_ _ | refine blk_drew ?_ | refine blk_alloc ?_ _)); exact BK516.out) hb); have n1_ := Aside0.mk (blk_below (g := gb517) (o := .cells #[.bool a1_0, .int .i64 a1_1, .bool a1_2, .int .i64 a1_3, .slice A1_4 l1_4.length c1_4] 24 (0, 0)) (by (with_reducible repeat (first | refine blk_drewN ?_ _ | refine blk_drew ?_ | refine blk_alloc ?_ _)); exact BK517.out) hb); have n2_ := Aside0.mk (below_step (by repeat (first | (with_reducible first | exact HB.out | apply below_alloc | apply pw_below_drewN | apply below_drew1 | refine below_set ?_ GE516.out | refine below_set ?_ GE517.out) | exact HB.out)) hb); clear BK516; clear BK517; clear HB; have BK516 := n0_; have BK517 := n1_; have HB := n2_; clear n0_ n1_ n2_; (try clear hb); (try clear hb2); (try clear hk); (try clear hi))))
      go_meet
      case rel => exact ⟨_, (true), (by first | rfl | (simp; done) | (simp [*]; done)), H', ⟨by first | omega | exact Nat.le_refl _⟩, ⟨by (with_reducible repeat (first | refine blk_drewN ?_ _ | refine blk_drew ?_ | refine blk_alloc ?_ _)); exact BK516.out⟩, ⟨by (with_reducible repeat (first | refine blk_drewN ?_ _ | refine blk_drew ?_ | refine blk_alloc ?_ _)); exact BK517.out⟩, ⟨by repeat (first | (with_reducible first | exact HB.out | apply below_alloc | apply pw_below_drewN | apply below_drew1 | refine below_set ?_ GE516.out | refine below_set ?_ GE517.out) | exact HB.out)⟩⟩
    · replace c9 := Bool.eq_false_iff.mpr c9
      subst c9
      have H1 : ((phaetonlaw04_Great.f a1_0 a1_1 a1_2 a1_3 l1_4).bind fun t520 => (if t520 = true then (phaetonlaw04_FrameOrder.j0 k t518 true a0_0 a0_1 a0_2 a0_3 l0_4 a1_0 a1_1 a1_2 a1_3 l1_4) else ((phaetonref04_Right.f k a0_0 a0_1 a0_2 a0_3 l0_4).bind fun t521 => (if t521 = true then ((phaetonref04_Right.f k a1_0 a1_1 a1_2 a1_3 l1_4).bind fun t522 => (phaetonlaw04_FrameOrder.j0 k t518 (!t522) a0_0 a0_1 a0_2 a0_3 l0_4 a1_0 a1_1 a1_2 a1_3 l1_4)) else (phaetonlaw04_FrameOrder.j0 k t518 true a0_0 a0_1 a0_2 a0_3 l0_4 a1_0 a1_1 a1_2 a1_3 l1_4))))) = some r := by rw [if_neg (show ¬ (false = true) by decide)] at H; exact H
      clear H
      have H := H1
      clear H1
      replace H := Option.bind_eq_some_iff.mp H
      obtain ⟨t520, A130, H⟩ := H
      replace H : (if t520 = true then (phaetonlaw04_FrameOrder.j0 k t518 true a0_0 a0_1 a0_2 a0_3 l0_4 a1_0 a1_1 a1_2 a1_3 l1_4) else ((phaetonref04_Right.f k a0_0 a0_1 a0_2 a0_3 l0_4).bind fun t521 => (if t521 = true then ((phaetonref04_Right.f k a1_0 a1_1 a1_2 a1_3 l1_4).bind fun t522 => (phaetonlaw04_FrameOrder.j0 k t518 (!t522) a0_0 a0_1 a0_2 a0_3 l0_4 a1_0 a1_1 a1_2 a1_3 l1_4)) else (phaetonlaw04_FrameOrder.j0 k t518 true a0_0 a0_1 a0_2 a0_3 l0_4 a1_0 a1_1 a1_2 a1_3 l1_4)))) = some r := H
      have A13 := Aside0.mk A130
      clear A130
      by_cases c14 : t520 = true
      · subst c14
        have H1 : (phaetonlaw04_FrameOrder.j0 k t518 true a0_0 a0_1 a0_2 a0_3 l0_4 a1_0 a1_1 a1_2 a1_3 l1_4) = some r := by rw [if_pos rfl] at H; exact H
        clear H
        have H := H1
        clear H1
        have H' := Aside0.mk H
        clear H
        have hnb15 := NB516_517.out
        have hnc15 := NB517_516.out
        have hcz16_0 : w7.cell? ⟨gb516, 0, none⟩ = some (.bool a0_0) := (blk_cell BK516.out 0).trans rfl
        have hcz16_1 : w7.cell? ⟨gb516, 1, none⟩ = some (.int .i64 a0_1) := (blk_cell BK516.out 1).trans rfl
        have hcz16_2 : w7.cell? ⟨gb516, 2, none⟩ = some (.bool a0_2) := (blk_cell BK516.out 2).trans rfl
        have hcz16_3 : w7.cell? ⟨gb516, 3, none⟩ = some (.int .i64 a0_3) := (blk_cell BK516.out 3).trans rfl
        have hcz16_4 : w7.cell? ⟨gb516, 4, none⟩ = some (.slice A0_4 l0_4.length c0_4) := (blk_cell BK516.out 4).trans rfl
        have hfz16_0 := blk_frozen BK516.out 0
        have hfz16_1 := blk_frozen BK516.out 1
        have hfz16_2 := blk_frozen BK516.out 2
        have hfz16_3 := blk_frozen BK516.out 3
        have hfz16_4 := blk_frozen BK516.out 4
        go_wp2_with (first | ((with_reducible refine gate_store (t := 24) (p := 3) rfl ?_); refine HW.store_box2 rfl rfl 24 _ _ rfl rfl rfl BK517.out rfl (by kernel_rfl) (by intro q hq; simp only [List.mem_cons, List.not_mem_nil, or_false] at hq; rcases hq with rfl | rfl | rfl | rfl | rfl <;> rfl) ?_; intro w1_ hw1_ hk1_; simp only [List.toList_toArray, World.setCells, Nat.zero_add, Nat.reduceAdd] at hw1_; subst hw1_; have hcb517_0 := (blk_cell hk1_ 0).trans rfl; have hfb517_0 := blk_frozen hk1_ 0; have hcb517_1 := (blk_cell hk1_ 1).trans rfl; have hfb517_1 := blk_frozen hk1_ 1; have hcb517_2 := (blk_cell hk1_ 2).trans rfl; have hfb517_2 := blk_frozen hk1_ 2; have hcb517_3 := (blk_cell hk1_ 3).trans rfl; have hfb517_3 := blk_frozen hk1_ 3; have hcb517_4 := (blk_cell hk1_ 4).trans rfl; have hfb517_4 := blk_frozen hk1_ 4; clear hk1_) | ((with_reducible refine gate_store (t := 24) (p := 2) rfl ?_); refine HW.store_box2 rfl rfl 24 _ _ rfl rfl rfl BK516.out rfl (by kernel_rfl) (by intro q hq; simp only [List.mem_cons, List.not_mem_nil, or_false] at hq; rcases hq with rfl | rfl | rfl | rfl | rfl <;> rfl) ?_; intro w1_ hw1_ hk1_; simp only [List.toList_toArray, World.setCells, Nat.zero_add, Nat.reduceAdd] at hw1_; subst hw1_; have hcb516_0 := (blk_cell hk1_ 0).trans rfl; have hfb516_0 := blk_frozen hk1_ 0; have hcb516_1 := (blk_cell hk1_ 1).trans rfl; have hfb516_1 := blk_frozen hk1_ 1; have hcb516_2 := (blk_cell hk1_ 2).trans rfl; have hfb516_2 := blk_frozen hk1_ 2; have hcb516_3 := (blk_cell hk1_ 3).trans rfl; have hfb516_3 := blk_frozen hk1_ 3; have hcb516_4 := (blk_cell hk1_ 4).trans rfl; have hfb516_4 := blk_frozen hk1_ 4; clear hk1_) | (go_at_call 11; (with_reducible refine (phaetonlaw04_Great.calls a0_0 a0_1 a0_2 a0_3 _ _ l0_4 false _ ?side1 ?side2 A8.out).mono ?_); (case side1 => repeat (first | exact (Kd.C_below HR0_4.out HB.out) | (with_reducible refine Kd.C_alloc ?_ _) | (with_reducible refine Kd.C_drewN ?_ _) | (with_reducible refine Kd.C_drew ?_))); (case side2 => exact HC0_4.out); rintro e w17 ⟨rfl, hb⟩; have n0_ := Aside0.mk (blk_below (g := gb516) (o := .cells #[.bool a0_0, .int .i64 a0_1, .bool a0_2, .int .i64 a0_3, .slice A0_4 l0_4.length c0_4] 24 (0, 0)) (by (with_reducible repeat (first | refine blk_drewN ?_ _ | refine blk_drew ?_ | refine blk_alloc ?_ _)); exact BK516.out) hb); have n1_ := Aside0.mk (blk_below (g := gb517) (o := .cells #[.bool a1_0, .int .i64 a1_1, .bool a1_2, .int .i64 a1_3, .slice A1_4 l1_4.length c1_4] 24 (0, 0)) (by (with_reducible repeat (first | refine blk_drewN ?_ _ | refine blk_drew ?_ | refine blk_alloc ?_ _)); exact BK517.out) hb); have n2_ := Aside0.mk (below_step (by repeat (first | (with_reducible first | exact HB.out | apply below_alloc | apply pw_below_drewN | apply below_drew1 | refine below_set ?_ GE516.out | refine below_set ?_ GE517.out) | exact HB.out)) hb); clear BK516; clear BK517; clear HB; have BK516 := n0_; have BK517 := n1_; have HB := n2_; clear n0_ n1_ n2_; (try clear hb); (try clear hb2); (try clear hk); (try clear hi); have hcz18_0 : w17.cell? ⟨gb517, 0, none⟩ = some (.bool a1_0) := (blk_cell BK517.out 0).trans rfl; have hcz18_1 : w17.cell? ⟨gb517, 1, none⟩ = some (.int .i64 a1_1) := (blk_cell BK517.out 1).trans rfl; have hcz18_2 : w17.cell? ⟨gb517, 2, none⟩ = some (.bool a1_2) := (blk_cell BK517.out 2).trans rfl; have hcz18_3 : w17.cell? ⟨gb517, 3, none⟩ = some (.int .i64 a1_3) := (blk_cell BK517.out 3).trans rfl; have hcz18_4 : w17.cell? ⟨gb517, 4, none⟩ = some (.slice A1_4 l1_4.length c1_4) := (blk_cell BK517.out 4).trans rfl; have hfz18_0 := blk_frozen BK517.out 0; have hfz18_1 := blk_frozen BK517.out 1; have hfz18_2 := blk_frozen BK517.out 2; have hfz18_3 := blk_frozen BK517.out 3; have hfz18_4 := blk_frozen BK517.out 4) | (go_at_call 11; (with_reducible refine (phaetonlaw04_Great.calls a1_0 a1_1 a1_2 a1_3 _ _ l1_4 true _ ?side1 ?side2 A13.out).mono ?_); (case side1 => repeat (first | exact (Kd.C_below HR1_4.out HB.out) | (with_reducible refine Kd.C_alloc ?_ _) | (with_reducible refine Kd.C_drewN ?_ _) | (with_reducible refine Kd.C_drew ?_))); (case side2 => exact HC1_4.out); rintro e w19 ⟨rfl, hb⟩; have n0_ := Aside0.mk (blk_below (g := gb516) (o := .cells #[.bool a0_0, .int .i64 a0_1, .bool a0_2, .int .i64 a0_3, .slice A0_4 l0_4.length c0_4] 24 (0, 0)) (by (with_reducible repeat (first | refine blk_drewN ?_ _ | refine blk_drew ?_ | refine blk_alloc ?_ _)); exact BK516.out) hb); have n1_ := Aside0.mk (blk_below (g := gb517) (o := .cells #[.bool a1_0, .int .i64 a1_1, .bool a1_2, .int .i64 a1_3, .slice A1_4 l1_4.length c1_4] 24 (0, 0)) (by (with_reducible repeat (first | refine blk_drewN ?_ _ | refine blk_drew ?_ | refine blk_alloc ?_ _)); exact BK517.out) hb); have n2_ := Aside0.mk (below_step (by repeat (first | (with_reducible first | exact HB.out | apply below_alloc | apply pw_below_drewN | apply below_drew1 | refine below_set ?_ GE516.out | refine below_set ?_ GE517.out) | exact HB.out)) hb); clear BK516; clear BK517; clear HB; have BK516 := n0_; have BK517 := n1_; have HB := n2_; clear n0_ n1_ n2_; (try clear hb); (try clear hb2); (try clear hk); (try clear hi)))
        repeat (go_quiet (first | (go_at_call 11; (with_reducible refine (phaetonlaw04_Great.calls a0_0 a0_1 a0_2 a0_3 _ _ l0_4 false _ ?side1 ?side2 A8.out).mono ?_); (case side1 => repeat (first | exact (Kd.C_below HR0_4.out HB.out) | (with_reducible refine Kd.C_alloc ?_ _) | (with_reducible refine Kd.C_drewN ?_ _) | (with_reducible refine Kd.C_drew ?_))); (case side2 => exact HC0_4.out); rintro e w17 ⟨rfl, hb⟩; have n0_ := Aside0.mk (blk_below (g := gb516) (o := .cells #[.bool a0_0, .int .i64 a0_1, .bool a0_2, .int .i64 a0_3, .slice A0_4 l0_4.length c0_4] 24 (0, 0)) (by (with_reducible repeat (first | refine blk_drewN ?_ _ | refine blk_drew ?_ | refine blk_alloc ?_ _)); exact BK516.out) hb); have n1_ := Aside0.mk (blk_below (g := gb517) (o := .cells #[.bool a1_0, .int .i64 a1_1, .bool a1_2, .int .i64 a1_3, .slice A1_4 l1_4.length c1_4] 24 (0, 0)) (by (with_reducible repeat (first | refine blk_drewN ?_ _ | refine blk_drew ?_ | refine blk_alloc ?_ _)); exact BK517.out) hb); have n2_ := Aside0.mk (below_step (by repeat (first | (with_reducible first | exact HB.out | apply below_alloc | apply pw_below_drewN | apply below_drew1 | refine below_set ?_ GE516.out | refine below_set ?_ GE517.out) | exact HB.out)) hb); clear BK516; clear BK517; clear HB; have BK516 := n0_; have BK517 := n1_; have HB := n2_; clear n0_ n1_ n2_; (try clear hb); (try clear hb2); (try clear hk); (try clear hi); have hcz18_0 : w17.cell? ⟨gb517, 0, none⟩ = some (.bool a1_0) := (blk_cell BK517.out 0).trans rfl; have hcz18_1 : w17.cell? ⟨gb517, 1, none⟩ = some (.int .i64 a1_1) := (blk_cell BK517.out 1).trans rfl; have hcz18_2 : w17.cell? ⟨gb517, 2, none⟩ = some (.bool a1_2) := (blk_cell BK517.out 2).trans rfl; have hcz18_3 : w17.cell? ⟨gb517, 3, none⟩ = some (.int .i64 a1_3) := (blk_cell BK517.out 3).trans rfl; have hcz18_4 : w17.cell? ⟨gb517, 4, none⟩ = some (.slice A1_4 l1_4.length c1_4) := (blk_cell BK517.out 4).trans rfl; have hfz18_0 := blk_frozen BK517.out 0; have hfz18_1 := blk_frozen BK517.out 1; have hfz18_2 := blk_frozen BK517.out 2; have hfz18_3 := blk_frozen BK517.out 3; have hfz18_4 := blk_frozen BK517.out 4) | (go_at_call 11; (with_reducible refine (phaetonlaw04_Great.calls a1_0 a1_1 a1_2 a1_3 _ _ l1_4 true _ ?side1 ?side2 A13.out).mono ?_); (case side1 => repeat (first | exact (Kd.C_below HR1_4.out HB.out) | (with_reducible refine Kd.C_alloc ?_ _) | (with_reducible refine Kd.C_drewN ?_ _) | (with_reducible refine Kd.C_drew ?_))); (case side2 => exact HC1_4.out); rintro e w19 ⟨rfl, hb⟩; have n0_ := Aside0.mk (blk_below (g := gb516) (o := .cells #[.bool a0_0, .int .i64 a0_1, .bool a0_2, .int .i64 a0_3, .slice A0_4 l0_4.length c0_4] 24 (0, 0)) (by (with_reducible repeat (first | refine blk_drewN ?_ _ | refine blk_drew ?_ | refine blk_alloc ?_ _)); exact BK516.out) hb); have n1_ := Aside0.mk (blk_below (g := gb517) (o := .cells #[.bool a1_0, .int .i64 a1_1, .bool a1_2, .int .i64 a1_3, .slice A1_4 l1_4.length c1_4] 24 (0, 0)) (by (with_reducible repeat (first | refine blk_drewN ?_ _ | refine blk_drew ?_ | refine blk_alloc ?_ _)); exact BK517.out) hb); have n2_ := Aside0.mk (below_step (by repeat (first | (with_reducible first | exact HB.out | apply below_alloc | apply pw_below_drewN | apply below_drew1 | refine below_set ?_ GE516.out | refine below_set ?_ GE517.out) | exact HB.out)) hb); clear BK516; clear BK517; clear HB; have BK516 := n0_; have BK517 := n1_; have HB := n2_; clear n0_ n1_ n2_; (try clear hb); (try clear hb2); (try clear hk); (try clear hi))); try go_wp2_with (first | (go_at_call 11; (with_reducible refine (phaetonlaw04_Great.calls a0_0 a0_1 a0_2 a0_3 _ _ l0_4 false _ ?side1 ?side2 A8.out).mono ?_); (case side1 => repeat (first | exact (Kd.C_below HR0_4.out HB.out) | (with_reducible refine Kd.C_alloc ?_ _) | (with_reducible refine Kd.C_drewN ?_ _) | (with_reducible refine Kd.C_drew ?_))); (case side2 => exact HC0_4.out); rintro e w17 ⟨rfl, hb⟩; have n0_ := Aside0.mk (blk_below (g := gb516) (o := .cells #[.bool a0_0, .int .i64 a0_1, .bool a0_2, .int .i64 a0_3, .slice A0_4 l0_4.length c0_4] 24 (0, 0)) (by (with_reducible repeat (first | refine blk_drewN ?_ _ | refine blk_drew ?_ | refine blk_alloc ?_ _)); exact BK516.out) hb); have n1_ := Aside0.mk (blk_below (g := gb517) (o := .cells #[.bool a1_0, .int .i64 a1_1, .bool a1_2, .int .i64 a1_3, .slice A1_4 l1_4.length c1_4] 24 (0, 0)) (by (with_reducible repeat (first | refine blk_drewN ?_ _ | refine blk_drew ?_ | refine blk_alloc ?_ _)); exact BK517.out) hb); have n2_ := Aside0.mk (below_step (by repeat (first | (with_reducible first | exact HB.out | apply below_alloc | apply pw_below_drewN | apply below_drew1 | refine below_set ?_ GE516.out | refine below_set ?_ GE517.out) | exact HB.out)) hb); clear BK516; clear BK517; clear HB; have BK516 := n0_; have BK517 := n1_; have HB := n2_; clear n0_ n1_ n2_; (try clear hb); (try clear hb2); (try clear hk); (try clear hi); have hcz18_0 : w17.cell? ⟨gb517, 0, none⟩ = some (.bool a1_0) := (blk_cell BK517.out 0).trans rfl; have hcz18_1 : w17.cell? ⟨gb517, 1, none⟩ = some (.int .i64 a1_1) := (blk_cell BK517.out 1).trans rfl; have hcz18_2 : w17.cell? ⟨gb517, 2, none⟩ = some (.bool a1_2) := (blk_cell BK517.out 2).trans rfl; have hcz18_3 : w17.cell? ⟨gb517, 3, none⟩ = some (.int .i64 a1_3) := (blk_cell BK517.out 3).trans rfl; have hcz18_4 : w17.cell? ⟨gb517, 4, none⟩ = some (.slice A1_4 l1_4.length c1_4) := (blk_cell BK517.out 4).trans rfl; have hfz18_0 := blk_frozen BK517.out 0; have hfz18_1 := blk_frozen BK517.out 1; have hfz18_2 := blk_frozen BK517.out 2; have hfz18_3 := blk_frozen BK517.out 3; have hfz18_4 := blk_frozen BK517.out 4) | (go_at_call 11; (with_reducible refine (phaetonlaw04_Great.calls a1_0 a1_1 a1_2 a1_3 _ _ l1_4 true _ ?side1 ?side2 A13.out).mono ?_); (case side1 => repeat (first | exact (Kd.C_below HR1_4.out HB.out) | (with_reducible refine Kd.C_alloc ?_ _) | (with_reducible refine Kd.C_drewN ?_ _) | (with_reducible refine Kd.C_drew ?_))); (case side2 => exact HC1_4.out); rintro e w19 ⟨rfl, hb⟩; have n0_ := Aside0.mk (blk_below (g := gb516) (o := .cells #[.bool a0_0, .int .i64 a0_1, .bool a0_2, .int .i64 a0_3, .slice A0_4 l0_4.length c0_4] 24 (0, 0)) (by (with_reducible repeat (first | refine blk_drewN ?_ _ | refine blk_drew ?_ | refine blk_alloc ?_ _)); exact BK516.out) hb); have n1_ := Aside0.mk (blk_below (g := gb517) (o := .cells #[.bool a1_0, .int .i64 a1_1, .bool a1_2, .int .i64 a1_3, .slice A1_4 l1_4.length c1_4] 24 (0, 0)) (by (with_reducible repeat (first | refine blk_drewN ?_ _ | refine blk_drew ?_ | refine blk_alloc ?_ _)); exact BK517.out) hb); have n2_ := Aside0.mk (below_step (by repeat (first | (with_reducible first | exact HB.out | apply below_alloc | apply pw_below_drewN | apply below_drew1 | refine below_set ?_ GE516.out | refine below_set ?_ GE517.out) | exact HB.out)) hb); clear BK516; clear BK517; clear HB; have BK516 := n0_; have BK517 := n1_; have HB := n2_; clear n0_ n1_ n2_; (try clear hb); (try clear hb2); (try clear hk); (try clear hi))))
        go_meet
        case rel => exact ⟨_, (true), (by first | rfl | (simp; done) | (simp [*]; done)), H', ⟨by first | omega | exact Nat.le_refl _⟩, ⟨by (with_reducible repeat (first | refine blk_drewN ?_ _ | refine blk_drew ?_ | refine blk_alloc ?_ _)); exact BK516.out⟩, ⟨by (with_reducible repeat (first | refine blk_drewN ?_ _ | refine blk_drew ?_ | refine blk_alloc ?_ _)); exact BK517.out⟩, ⟨by repeat (first | (with_reducible first | exact HB.out | apply below_alloc | apply pw_below_drewN | apply below_drew1 | refine below_set ?_ GE516.out | refine below_set ?_ GE517.out) | exact HB.out)⟩⟩
      · replace c14 := Bool.eq_false_iff.mpr c14
        subst c14
        have H1 : ((phaetonref04_Right.f k a0_0 a0_1 a0_2 a0_3 l0_4).bind fun t521 => (if t521 = true then ((phaetonref04_Right.f k a1_0 a1_1 a1_2 a1_3 l1_4).bind fun t522 => (phaetonlaw04_FrameOrder.j0 k t518 (!t522) a0_0 a0_1 a0_2 a0_3 l0_4 a1_0 a1_1 a1_2 a1_3 l1_4)) else (phaetonlaw04_FrameOrder.j0 k t518 true a0_0 a0_1 a0_2 a0_3 l0_4 a1_0 a1_1 a1_2 a1_3 l1_4))) = some r := by rw [if_neg (show ¬ (false = true) by decide)] at H; exact H
        clear H
        have H := H1
        clear H1
        replace H := Option.bind_eq_some_iff.mp H
        obtain ⟨t521, A200, H⟩ := H
        replace H : (if t521 = true then ((phaetonref04_Right.f k a1_0 a1_1 a1_2 a1_3 l1_4).bind fun t522 => (phaetonlaw04_FrameOrder.j0 k t518 (!t522) a0_0 a0_1 a0_2 a0_3 l0_4 a1_0 a1_1 a1_2 a1_3 l1_4)) else (phaetonlaw04_FrameOrder.j0 k t518 true a0_0 a0_1 a0_2 a0_3 l0_4 a1_0 a1_1 a1_2 a1_3 l1_4)) = some r := H
        have A20 := Aside0.mk A200
        clear A200
        by_cases c21 : t521 = true
        · subst c21
          have H1 : ((phaetonref04_Right.f k a1_0 a1_1 a1_2 a1_3 l1_4).bind fun t522 => (phaetonlaw04_FrameOrder.j0 k t518 (!t522) a0_0 a0_1 a0_2 a0_3 l0_4 a1_0 a1_1 a1_2 a1_3 l1_4)) = some r := by rw [if_pos rfl] at H; exact H
          clear H
          have H := H1
          clear H1
          replace H := Option.bind_eq_some_iff.mp H
          obtain ⟨t522, A220, H⟩ := H
          replace H : (phaetonlaw04_FrameOrder.j0 k t518 (!t522) a0_0 a0_1 a0_2 a0_3 l0_4 a1_0 a1_1 a1_2 a1_3 l1_4) = some r := H
          have A22 := Aside0.mk A220
          clear A220
          have H' := Aside0.mk H
          clear H
          have hnb23 := NB516_517.out
          have hnc23 := NB517_516.out
          have hcz24_0 : w7.cell? ⟨gb516, 0, none⟩ = some (.bool a0_0) := (blk_cell BK516.out 0).trans rfl
          have hcz24_1 : w7.cell? ⟨gb516, 1, none⟩ = some (.int .i64 a0_1) := (blk_cell BK516.out 1).trans rfl
          have hcz24_2 : w7.cell? ⟨gb516, 2, none⟩ = some (.bool a0_2) := (blk_cell BK516.out 2).trans rfl
          have hcz24_3 : w7.cell? ⟨gb516, 3, none⟩ = some (.int .i64 a0_3) := (blk_cell BK516.out 3).trans rfl
          have hcz24_4 : w7.cell? ⟨gb516, 4, none⟩ = some (.slice A0_4 l0_4.length c0_4) := (blk_cell BK516.out 4).trans rfl
          have hfz24_0 := blk_frozen BK516.out 0
          have hfz24_1 := blk_frozen BK516.out 1
          have hfz24_2 := blk_frozen BK516.out 2
          have hfz24_3 := blk_frozen BK516.out 3
          have hfz24_4 := blk_frozen BK516.out 4
          go_wp2_with (first | ((with_reducible refine gate_store (t := 24) (p := 3) rfl ?_); refine HW.store_box2 rfl rfl 24 _ _ rfl rfl rfl BK517.out rfl (by kernel_rfl) (by intro q hq; simp only [List.mem_cons, List.not_mem_nil, or_false] at hq; rcases hq with rfl | rfl | rfl | rfl | rfl <;> rfl) ?_; intro w1_ hw1_ hk1_; simp only [List.toList_toArray, World.setCells, Nat.zero_add, Nat.reduceAdd] at hw1_; subst hw1_; have hcb517_0 := (blk_cell hk1_ 0).trans rfl; have hfb517_0 := blk_frozen hk1_ 0; have hcb517_1 := (blk_cell hk1_ 1).trans rfl; have hfb517_1 := blk_frozen hk1_ 1; have hcb517_2 := (blk_cell hk1_ 2).trans rfl; have hfb517_2 := blk_frozen hk1_ 2; have hcb517_3 := (blk_cell hk1_ 3).trans rfl; have hfb517_3 := blk_frozen hk1_ 3; have hcb517_4 := (blk_cell hk1_ 4).trans rfl; have hfb517_4 := blk_frozen hk1_ 4; clear hk1_) | ((with_reducible refine gate_store (t := 24) (p := 2) rfl ?_); refine HW.store_box2 rfl rfl 24 _ _ rfl rfl rfl BK516.out rfl (by kernel_rfl) (by intro q hq; simp only [List.mem_cons, List.not_mem_nil, or_false] at hq; rcases hq with rfl | rfl | rfl | rfl | rfl <;> rfl) ?_; intro w1_ hw1_ hk1_; simp only [List.toList_toArray, World.setCells, Nat.zero_add, Nat.reduceAdd] at hw1_; subst hw1_; have hcb516_0 := (blk_cell hk1_ 0).trans rfl; have hfb516_0 := blk_frozen hk1_ 0; have hcb516_1 := (blk_cell hk1_ 1).trans rfl; have hfb516_1 := blk_frozen hk1_ 1; have hcb516_2 := (blk_cell hk1_ 2).trans rfl; have hfb516_2 := blk_frozen hk1_ 2; have hcb516_3 := (blk_cell hk1_ 3).trans rfl; have hfb516_3 := blk_frozen hk1_ 3; have hcb516_4 := (blk_cell hk1_ 4).trans rfl; have hfb516_4 := blk_frozen hk1_ 4; clear hk1_) | (go_at_call 11; (with_reducible refine (phaetonlaw04_Great.calls a0_0 a0_1 a0_2 a0_3 _ _ l0_4 false _ ?side1 ?side2 A8.out).mono ?_); (case side1 => repeat (first | exact (Kd.C_below HR0_4.out HB.out) | (with_reducible refine Kd.C_alloc ?_ _) | (with_reducible refine Kd.C_drewN ?_ _) | (with_reducible refine Kd.C_drew ?_))); (case side2 => exact HC0_4.out); rintro e w25 ⟨rfl, hb⟩; have n0_ := Aside0.mk (blk_below (g := gb516) (o := .cells #[.bool a0_0, .int .i64 a0_1, .bool a0_2, .int .i64 a0_3, .slice A0_4 l0_4.length c0_4] 24 (0, 0)) (by (with_reducible repeat (first | refine blk_drewN ?_ _ | refine blk_drew ?_ | refine blk_alloc ?_ _)); exact BK516.out) hb); have n1_ := Aside0.mk (blk_below (g := gb517) (o := .cells #[.bool a1_0, .int .i64 a1_1, .bool a1_2, .int .i64 a1_3, .slice A1_4 l1_4.length c1_4] 24 (0, 0)) (by (with_reducible repeat (first | refine blk_drewN ?_ _ | refine blk_drew ?_ | refine blk_alloc ?_ _)); exact BK517.out) hb); have n2_ := Aside0.mk (below_step (by repeat (first | (with_reducible first | exact HB.out | apply below_alloc | apply pw_below_drewN | apply below_drew1 | refine below_set ?_ GE516.out | refine below_set ?_ GE517.out) | exact HB.out)) hb); clear BK516; clear BK517; clear HB; have BK516 := n0_; have BK517 := n1_; have HB := n2_; clear n0_ n1_ n2_; (try clear hb); (try clear hb2); (try clear hk); (try clear hi); have hcz26_0 : w25.cell? ⟨gb517, 0, none⟩ = some (.bool a1_0) := (blk_cell BK517.out 0).trans rfl; have hcz26_1 : w25.cell? ⟨gb517, 1, none⟩ = some (.int .i64 a1_1) := (blk_cell BK517.out 1).trans rfl; have hcz26_2 : w25.cell? ⟨gb517, 2, none⟩ = some (.bool a1_2) := (blk_cell BK517.out 2).trans rfl; have hcz26_3 : w25.cell? ⟨gb517, 3, none⟩ = some (.int .i64 a1_3) := (blk_cell BK517.out 3).trans rfl; have hcz26_4 : w25.cell? ⟨gb517, 4, none⟩ = some (.slice A1_4 l1_4.length c1_4) := (blk_cell BK517.out 4).trans rfl; have hfz26_0 := blk_frozen BK517.out 0; have hfz26_1 := blk_frozen BK517.out 1; have hfz26_2 := blk_frozen BK517.out 2; have hfz26_3 := blk_frozen BK517.out 3; have hfz26_4 := blk_frozen BK517.out 4) | (go_at_call 11; (with_reducible refine (phaetonlaw04_Great.calls a1_0 a1_1 a1_2 a1_3 _ _ l1_4 false _ ?side1 ?side2 A13.out).mono ?_); (case side1 => repeat (first | exact (Kd.C_below HR1_4.out HB.out) | (with_reducible refine Kd.C_alloc ?_ _) | (with_reducible refine Kd.C_drewN ?_ _) | (with_reducible refine Kd.C_drew ?_))); (case side2 => exact HC1_4.out); rintro e w27 ⟨rfl, hb⟩; have n0_ := Aside0.mk (blk_below (g := gb516) (o := .cells #[.bool a0_0, .int .i64 a0_1, .bool a0_2, .int .i64 a0_3, .slice A0_4 l0_4.length c0_4] 24 (0, 0)) (by (with_reducible repeat (first | refine blk_drewN ?_ _ | refine blk_drew ?_ | refine blk_alloc ?_ _)); exact BK516.out) hb); have n1_ := Aside0.mk (blk_below (g := gb517) (o := .cells #[.bool a1_0, .int .i64 a1_1, .bool a1_2, .int .i64 a1_3, .slice A1_4 l1_4.length c1_4] 24 (0, 0)) (by (with_reducible repeat (first | refine blk_drewN ?_ _ | refine blk_drew ?_ | refine blk_alloc ?_ _)); exact BK517.out) hb); have n2_ := Aside0.mk (below_step (by repeat (first | (with_reducible first | exact HB.out | apply below_alloc | apply pw_below_drewN | apply below_drew1 | refine below_set ?_ GE516.out | refine below_set ?_ GE517.out) | exact HB.out)) hb); clear BK516; clear BK517; clear HB; have BK516 := n0_; have BK517 := n1_; have HB := n2_; clear n0_ n1_ n2_; (try clear hb); (try clear hb2); (try clear hk); (try clear hi); have hcz28_0 : w27.cell? ⟨gb516, 0, none⟩ = some (.bool a0_0) := (blk_cell BK516.out 0).trans rfl; have hcz28_1 : w27.cell? ⟨gb516, 1, none⟩ = some (.int .i64 a0_1) := (blk_cell BK516.out 1).trans rfl; have hcz28_2 : w27.cell? ⟨gb516, 2, none⟩ = some (.bool a0_2) := (blk_cell BK516.out 2).trans rfl; have hcz28_3 : w27.cell? ⟨gb516, 3, none⟩ = some (.int .i64 a0_3) := (blk_cell BK516.out 3).trans rfl; have hcz28_4 : w27.cell? ⟨gb516, 4, none⟩ = some (.slice A0_4 l0_4.length c0_4) := (blk_cell BK516.out 4).trans rfl; have hfz28_0 := blk_frozen BK516.out 0; have hfz28_1 := blk_frozen BK516.out 1; have hfz28_2 := blk_frozen BK516.out 2; have hfz28_3 := blk_frozen BK516.out 3; have hfz28_4 := blk_frozen BK516.out 4) | (go_at_call 13; (with_reducible refine (phaetonref04_Right.calls k a0_0 a0_1 a0_2 a0_3 _ _ l0_4 true _ ?side1 ?side2 A20.out).mono ?_); (case side1 => repeat (first | exact (Kd.C_below HR0_4.out HB.out) | (with_reducible refine Kd.C_alloc ?_ _) | (with_reducible refine Kd.C_drewN ?_ _) | (with_reducible refine Kd.C_drew ?_))); (case side2 => exact HC0_4.out); rintro e w29 ⟨rfl, hb⟩; have n0_ := Aside0.mk (blk_below (g := gb516) (o := .cells #[.bool a0_0, .int .i64 a0_1, .bool a0_2, .int .i64 a0_3, .slice A0_4 l0_4.length c0_4] 24 (0, 0)) (by (with_reducible repeat (first | refine blk_drewN ?_ _ | refine blk_drew ?_ | refine blk_alloc ?_ _)); exact BK516.out) hb); have n1_ := Aside0.mk (blk_below (g := gb517) (o := .cells #[.bool a1_0, .int .i64 a1_1, .bool a1_2, .int .i64 a1_3, .slice A1_4 l1_4.length c1_4] 24 (0, 0)) (by (with_reducible repeat (first | refine blk_drewN ?_ _ | refine blk_drew ?_ | refine blk_alloc ?_ _)); exact BK517.out) hb); have n2_ := Aside0.mk (below_step (by repeat (first | (with_reducible first | exact HB.out | apply below_alloc | apply pw_below_drewN | apply below_drew1 | refine below_set ?_ GE516.out | refine below_set ?_ GE517.out) | exact HB.out)) hb); clear BK516; clear BK517; clear HB; have BK516 := n0_; have BK517 := n1_; have HB := n2_; clear n0_ n1_ n2_; (try clear hb); (try clear hb2); (try clear hk); (try clear hi); have hcz30_0 : w29.cell? ⟨gb517, 0, none⟩ = some (.bool a1_0) := (blk_cell BK517.out 0).trans rfl; have hcz30_1 : w29.cell? ⟨gb517, 1, none⟩ = some (.int .i64 a1_1) := (blk_cell BK517.out 1).trans rfl; have hcz30_2 : w29.cell? ⟨gb517, 2, none⟩ = some (.bool a1_2) := (blk_cell BK517.out 2).trans rfl; have hcz30_3 : w29.cell? ⟨gb517, 3, none⟩ = some (.int .i64 a1_3) := (blk_cell BK517.out 3).trans rfl; have hcz30_4 : w29.cell? ⟨gb517, 4, none⟩ = some (.slice A1_4 l1_4.length c1_4) := (blk_cell BK517.out 4).trans rfl; have hfz30_0 := blk_frozen BK517.out 0; have hfz30_1 := blk_frozen BK517.out 1; have hfz30_2 := blk_frozen BK517.out 2; have hfz30_3 := blk_frozen BK517.out 3; have hfz30_4 := blk_frozen BK517.out 4) | (go_at_call 13; (with_reducible refine (phaetonref04_Right.calls k a1_0 a1_1 a1_2 a1_3 _ _ l1_4 t522 _ ?side1 ?side2 A22.out).mono ?_); (case side1 => repeat (first | exact (Kd.C_below HR1_4.out HB.out) | (with_reducible refine Kd.C_alloc ?_ _) | (with_reducible refine Kd.C_drewN ?_ _) | (with_reducible refine Kd.C_drew ?_))); (case side2 => exact HC1_4.out); rintro e w31 ⟨rfl, hb⟩; have n0_ := Aside0.mk (blk_below (g := gb516) (o := .cells #[.bool a0_0, .int .i64 a0_1, .bool a0_2, .int .i64 a0_3, .slice A0_4 l0_4.length c0_4] 24 (0, 0)) (by (with_reducible repeat (first | refine blk_drewN ?_ _ | refine blk_drew ?_ | refine blk_alloc ?_ _)); exact BK516.out) hb); have n1_ := Aside0.mk (blk_below (g := gb517) (o := .cells #[.bool a1_0, .int .i64 a1_1, .bool a1_2, .int .i64 a1_3, .slice A1_4 l1_4.length c1_4] 24 (0, 0)) (by (with_reducible repeat (first | refine blk_drewN ?_ _ | refine blk_drew ?_ | refine blk_alloc ?_ _)); exact BK517.out) hb); have n2_ := Aside0.mk (below_step (by repeat (first | (with_reducible first | exact HB.out | apply below_alloc | apply pw_below_drewN | apply below_drew1 | refine below_set ?_ GE516.out | refine below_set ?_ GE517.out) | exact HB.out)) hb); clear BK516; clear BK517; clear HB; have BK516 := n0_; have BK517 := n1_; have HB := n2_; clear n0_ n1_ n2_; (try clear hb); (try clear hb2); (try clear hk); (try clear hi)))
          repeat (go_quiet (first | (go_at_call 11; (with_reducible refine (phaetonlaw04_Great.calls a0_0 a0_1 a0_2 a0_3 _ _ l0_4 false _ ?side1 ?side2 A8.out).mono ?_); (case side1 => repeat (first | exact (Kd.C_below HR0_4.out HB.out) | (with_reducible refine Kd.C_alloc ?_ _) | (with_reducible refine Kd.C_drewN ?_ _) | (with_reducible refine Kd.C_drew ?_))); (case side2 => exact HC0_4.out); rintro e w25 ⟨rfl, hb⟩; have n0_ := Aside0.mk (blk_below (g := gb516) (o := .cells #[.bool a0_0, .int .i64 a0_1, .bool a0_2, .int .i64 a0_3, .slice A0_4 l0_4.length c0_4] 24 (0, 0)) (by (with_reducible repeat (first | refine blk_drewN ?_ _ | refine blk_drew ?_ | refine blk_alloc ?_ _)); exact BK516.out) hb); have n1_ := Aside0.mk (blk_below (g := gb517) (o := .cells #[.bool a1_0, .int .i64 a1_1, .bool a1_2, .int .i64 a1_3, .slice A1_4 l1_4.length c1_4] 24 (0, 0)) (by (with_reducible repeat (first | refine blk_drewN ?_ _ | refine blk_drew ?_ | refine blk_alloc ?_ _)); exact BK517.out) hb); have n2_ := Aside0.mk (below_step (by repeat (first | (with_reducible first | exact HB.out | apply below_alloc | apply pw_below_drewN | apply below_drew1 | refine below_set ?_ GE516.out | refine below_set ?_ GE517.out) | exact HB.out)) hb); clear BK516; clear BK517; clear HB; have BK516 := n0_; have BK517 := n1_; have HB := n2_; clear n0_ n1_ n2_; (try clear hb); (try clear hb2); (try clear hk); (try clear hi); have hcz26_0 : w25.cell? ⟨gb517, 0, none⟩ = some (.bool a1_0) := (blk_cell BK517.out 0).trans rfl; have hcz26_1 : w25.cell? ⟨gb517, 1, none⟩ = some (.int .i64 a1_1) := (blk_cell BK517.out 1).trans rfl; have hcz26_2 : w25.cell? ⟨gb517, 2, none⟩ = some (.bool a1_2) := (blk_cell BK517.out 2).trans rfl; have hcz26_3 : w25.cell? ⟨gb517, 3, none⟩ = some (.int .i64 a1_3) := (blk_cell BK517.out 3).trans rfl; have hcz26_4 : w25.cell? ⟨gb517, 4, none⟩ = some (.slice A1_4 l1_4.length c1_4) := (blk_cell BK517.out 4).trans rfl; have hfz26_0 := blk_frozen BK517.out 0; have hfz26_1 := blk_frozen BK517.out 1; have hfz26_2 := blk_frozen BK517.out 2; have hfz26_3 := blk_frozen BK517.out 3; have hfz26_4 := blk_frozen BK517.out 4) | (go_at_call 11; (with_reducible refine (phaetonlaw04_Great.calls a1_0 a1_1 a1_2 a1_3 _ _ l1_4 false _ ?side1 ?side2 A13.out).mono ?_); (case side1 => repeat (first | exact (Kd.C_below HR1_4.out HB.out) | (with_reducible refine Kd.C_alloc ?_ _) | (with_reducible refine Kd.C_drewN ?_ _) | (with_reducible refine Kd.C_drew ?_))); (case side2 => exact HC1_4.out); rintro e w27 ⟨rfl, hb⟩; have n0_ := Aside0.mk (blk_below (g := gb516) (o := .cells #[.bool a0_0, .int .i64 a0_1, .bool a0_2, .int .i64 a0_3, .slice A0_4 l0_4.length c0_4] 24 (0, 0)) (by (with_reducible repeat (first | refine blk_drewN ?_ _ | refine blk_drew ?_ | refine blk_alloc ?_ _)); exact BK516.out) hb); have n1_ := Aside0.mk (blk_below (g := gb517) (o := .cells #[.bool a1_0, .int .i64 a1_1, .bool a1_2, .int .i64 a1_3, .slice A1_4 l1_4.length c1_4] 24 (0, 0)) (by (with_reducible repeat (first | refine blk_drewN ?_ _ | refine blk_drew ?_ | refine blk_alloc ?_ _)); exact BK517.out) hb); have n2_ := Aside0.mk (below_step (by repeat (first | (with_reducible first | exact HB.out | apply below_alloc | apply pw_below_drewN | apply below_drew1 | refine below_set ?_ GE516.out | refine below_set ?_ GE517.out) | exact HB.out)) hb); clear BK516; clear BK517; clear HB; have BK516 := n0_; have BK517 := n1_; have HB := n2_; clear n0_ n1_ n2_; (try clear hb); (try clear hb2); (try clear hk); (try clear hi); have hcz28_0 : w27.cell? ⟨gb516, 0, none⟩ = some (.bool a0_0) := (blk_cell BK516.out 0).trans rfl; have hcz28_1 : w27.cell? ⟨gb516, 1, none⟩ = some (.int .i64 a0_1) := (blk_cell BK516.out 1).trans rfl; have hcz28_2 : w27.cell? ⟨gb516, 2, none⟩ = some (.bool a0_2) := (blk_cell BK516.out 2).trans rfl; have hcz28_3 : w27.cell? ⟨gb516, 3, none⟩ = some (.int .i64 a0_3) := (blk_cell BK516.out 3).trans rfl; have hcz28_4 : w27.cell? ⟨gb516, 4, none⟩ = some (.slice A0_4 l0_4.length c0_4) := (blk_cell BK516.out 4).trans rfl; have hfz28_0 := blk_frozen BK516.out 0; have hfz28_1 := blk_frozen BK516.out 1; have hfz28_2 := blk_frozen BK516.out 2; have hfz28_3 := blk_frozen BK516.out 3; have hfz28_4 := blk_frozen BK516.out 4) | (go_at_call 13; (with_reducible refine (phaetonref04_Right.calls k a0_0 a0_1 a0_2 a0_3 _ _ l0_4 true _ ?side1 ?side2 A20.out).mono ?_); (case side1 => repeat (first | exact (Kd.C_below HR0_4.out HB.out) | (with_reducible refine Kd.C_alloc ?_ _) | (with_reducible refine Kd.C_drewN ?_ _) | (with_reducible refine Kd.C_drew ?_))); (case side2 => exact HC0_4.out); rintro e w29 ⟨rfl, hb⟩; have n0_ := Aside0.mk (blk_below (g := gb516) (o := .cells #[.bool a0_0, .int .i64 a0_1, .bool a0_2, .int .i64 a0_3, .slice A0_4 l0_4.length c0_4] 24 (0, 0)) (by (with_reducible repeat (first | refine blk_drewN ?_ _ | refine blk_drew ?_ | refine blk_alloc ?_ _)); exact BK516.out) hb); have n1_ := Aside0.mk (blk_below (g := gb517) (o := .cells #[.bool a1_0, .int .i64 a1_1, .bool a1_2, .int .i64 a1_3, .slice A1_4 l1_4.length c1_4] 24 (0, 0)) (by (with_reducible repeat (first | refine blk_drewN ?_ _ | refine blk_drew ?_ | refine blk_alloc ?_ _)); exact BK517.out) hb); have n2_ := Aside0.mk (below_step (by repeat (first | (with_reducible first | exact HB.out | apply below_alloc | apply pw_below_drewN | apply below_drew1 | refine below_set ?_ GE516.out | refine below_set ?_ GE517.out) | exact HB.out)) hb); clear BK516; clear BK517; clear HB; have BK516 := n0_; have BK517 := n1_; have HB := n2_; clear n0_ n1_ n2_; (try clear hb); (try clear hb2); (try clear hk); (try clear hi); have hcz30_0 : w29.cell? ⟨gb517, 0, none⟩ = some (.bool a1_0) := (blk_cell BK517.out 0).trans rfl; have hcz30_1 : w29.cell? ⟨gb517, 1, none⟩ = some (.int .i64 a1_1) := (blk_cell BK517.out 1).trans rfl; have hcz30_2 : w29.cell? ⟨gb517, 2, none⟩ = some (.bool a1_2) := (blk_cell BK517.out 2).trans rfl; have hcz30_3 : w29.cell? ⟨gb517, 3, none⟩ = some (.int .i64 a1_3) := (blk_cell BK517.out 3).trans rfl; have hcz30_4 : w29.cell? ⟨gb517, 4, none⟩ = some (.slice A1_4 l1_4.length c1_4) := (blk_cell BK517.out 4).trans rfl; have hfz30_0 := blk_frozen BK517.out 0; have hfz30_1 := blk_frozen BK517.out 1; have hfz30_2 := blk_frozen BK517.out 2; have hfz30_3 := blk_frozen BK517.out 3; have hfz30_4 := blk_frozen BK517.out 4) | (go_at_call 13; (with_reducible refine (phaetonref04_Right.calls k a1_0 a1_1 a1_2 a1_3 _ _ l1_4 t522 _ ?side1 ?side2 A22.out).mono ?_); (case side1 => repeat (first | exact (Kd.C_below HR1_4.out HB.out) | (with_reducible refine Kd.C_alloc ?_ _) | (with_reducible refine Kd.C_drewN ?_ _) | (with_reducible refine Kd.C_drew ?_))); (case side2 => exact HC1_4.out); rintro e w31 ⟨rfl, hb⟩; have n0_ := Aside0.mk (blk_below (g := gb516) (o := .cells #[.bool a0_0, .int .i64 a0_1, .bool a0_2, .int .i64 a0_3, .slice A0_4 l0_4.length c0_4] 24 (0, 0)) (by (with_reducible repeat (first | refine blk_drewN ?_ _ | refine blk_drew ?_ | refine blk_alloc ?_ _)); exact BK516.out) hb); have n1_ := Aside0.mk (blk_below (g := gb517) (o := .cells #[.bool a1_0, .int .i64 a1_1, .bool a1_2, .int .i64 a1_3, .slice A1_4 l1_4.length c1_4] 24 (0, 0)) (by (with_reducible repeat (first | refine blk_drewN ?_ _ | refine blk_drew ?_ | refine blk_alloc ?_ _)); exact BK517.out) hb); have n2_ := Aside0.mk (below_step (by repeat (first | (with_reducible first | exact HB.out | apply below_alloc | apply pw_below_drewN | apply below_drew1 | refine below_set ?_ GE516.out | refine below_set ?_ GE517.out) | exact HB.out)) hb); clear BK516; clear BK517; clear HB; have BK516 := n0_; have BK517 := n1_; have HB := n2_; clear n0_ n1_ n2_; (try clear hb); (try clear hb2); (try clear hk); (try clear hi))); try go_wp2_with (first | (go_at_call 11; (with_reducible refine (phaetonlaw04_Great.calls a0_0 a0_1 a0_2 a0_3 _ _ l0_4 false _ ?side1 ?side2 A8.out).mono ?_); (case side1 => repeat (first | exact (Kd.C_below HR0_4.out HB.out) | (with_reducible refine Kd.C_alloc ?_ _) | (with_reducible refine Kd.C_drewN ?_ _) | (with_reducible refine Kd.C_drew ?_))); (case side2 => exact HC0_4.out); rintro e w25 ⟨rfl, hb⟩; have n0_ := Aside0.mk (blk_below (g := gb516) (o := .cells #[.bool a0_0, .int .i64 a0_1, .bool a0_2, .int .i64 a0_3, .slice A0_4 l0_4.length c0_4] 24 (0, 0)) (by (with_reducible repeat (first | refine blk_drewN ?_ _ | refine blk_drew ?_ | refine blk_alloc ?_ _)); exact BK516.out) hb); have n1_ := Aside0.mk (blk_below (g := gb517) (o := .cells #[.bool a1_0, .int .i64 a1_1, .bool a1_2, .int .i64 a1_3, .slice A1_4 l1_4.length c1_4] 24 (0, 0)) (by (with_reducible repeat (first | refine blk_drewN ?_ _ | refine blk_drew ?_ | refine blk_alloc ?_ _)); exact BK517.out) hb); have n2_ := Aside0.mk (below_step (by repeat (first | (with_reducible first | exact HB.out | apply below_alloc | apply pw_below_drewN | apply below_drew1 | refine below_set ?_ GE516.out | refine below_set ?_ GE517.out) | exact HB.out)) hb); clear BK516; clear BK517; clear HB; have BK516 := n0_; have BK517 := n1_; have HB := n2_; clear n0_ n1_ n2_; (try clear hb); (try clear hb2); (try clear hk); (try clear hi); have hcz26_0 : w25.cell? ⟨gb517, 0, none⟩ = some (.bool a1_0) := (blk_cell BK517.out 0).trans rfl; have hcz26_1 : w25.cell? ⟨gb517, 1, none⟩ = some (.int .i64 a1_1) := (blk_cell BK517.out 1).trans rfl; have hcz26_2 : w25.cell? ⟨gb517, 2, none⟩ = some (.bool a1_2) := (blk_cell BK517.out 2).trans rfl; have hcz26_3 : w25.cell? ⟨gb517, 3, none⟩ = some (.int .i64 a1_3) := (blk_cell BK517.out 3).trans rfl; have hcz26_4 : w25.cell? ⟨gb517, 4, none⟩ = some (.slice A1_4 l1_4.length c1_4) := (blk_cell BK517.out 4).trans rfl; have hfz26_0 := blk_frozen BK517.out 0; have hfz26_1 := blk_frozen BK517.out 1; have hfz26_2 := blk_frozen BK517.out 2; have hfz26_3 := blk_frozen BK517.out 3; have hfz26_4 := blk_frozen BK517.out 4) | (go_at_call 11; (with_reducible refine (phaetonlaw04_Great.calls a1_0 a1_1 a1_2 a1_3 _ _ l1_4 false _ ?side1 ?side2 A13.out).mono ?_); (case side1 => repeat (first | exact (Kd.C_below HR1_4.out HB.out) | (with_reducible refine Kd.C_alloc ?_ _) | (with_reducible refine Kd.C_drewN ?_ _) | (with_reducible refine Kd.C_drew ?_))); (case side2 => exact HC1_4.out); rintro e w27 ⟨rfl, hb⟩; have n0_ := Aside0.mk (blk_below (g := gb516) (o := .cells #[.bool a0_0, .int .i64 a0_1, .bool a0_2, .int .i64 a0_3, .slice A0_4 l0_4.length c0_4] 24 (0, 0)) (by (with_reducible repeat (first | refine blk_drewN ?_ _ | refine blk_drew ?_ | refine blk_alloc ?_ _)); exact BK516.out) hb); have n1_ := Aside0.mk (blk_below (g := gb517) (o := .cells #[.bool a1_0, .int .i64 a1_1, .bool a1_2, .int .i64 a1_3, .slice A1_4 l1_4.length c1_4] 24 (0, 0)) (by (with_reducible repeat (first | refine blk_drewN ?_ _ | refine blk_drew ?_ | refine blk_alloc ?_ _)); exact BK517.out) hb); have n2_ := Aside0.mk (below_step (by repeat (first | (with_reducible first | exact HB.out | apply below_alloc | apply pw_below_drewN | apply below_drew1 | refine below_set ?_ GE516.out | refine below_set ?_ GE517.out) | exact HB.out)) hb); clear BK516; clear BK517; clear HB; have BK516 := n0_; have BK517 := n1_; have HB := n2_; clear n0_ n1_ n2_; (try clear hb); (try clear hb2); (try clear hk); (try clear hi); have hcz28_0 : w27.cell? ⟨gb516, 0, none⟩ = some (.bool a0_0) := (blk_cell BK516.out 0).trans rfl; have hcz28_1 : w27.cell? ⟨gb516, 1, none⟩ = some (.int .i64 a0_1) := (blk_cell BK516.out 1).trans rfl; have hcz28_2 : w27.cell? ⟨gb516, 2, none⟩ = some (.bool a0_2) := (blk_cell BK516.out 2).trans rfl; have hcz28_3 : w27.cell? ⟨gb516, 3, none⟩ = some (.int .i64 a0_3) := (blk_cell BK516.out 3).trans rfl; have hcz28_4 : w27.cell? ⟨gb516, 4, none⟩ = some (.slice A0_4 l0_4.length c0_4) := (blk_cell BK516.out 4).trans rfl; have hfz28_0 := blk_frozen BK516.out 0; have hfz28_1 := blk_frozen BK516.out 1; have hfz28_2 := blk_frozen BK516.out 2; have hfz28_3 := blk_frozen BK516.out 3; have hfz28_4 := blk_frozen BK516.out 4) | (go_at_call 13; (with_reducible refine (phaetonref04_Right.calls k a0_0 a0_1 a0_2 a0_3 _ _ l0_4 true _ ?side1 ?side2 A20.out).mono ?_); (case side1 => repeat (first | exact (Kd.C_below HR0_4.out HB.out) | (with_reducible refine Kd.C_alloc ?_ _) | (with_reducible refine Kd.C_drewN ?_ _) | (with_reducible refine Kd.C_drew ?_))); (case side2 => exact HC0_4.out); rintro e w29 ⟨rfl, hb⟩; have n0_ := Aside0.mk (blk_below (g := gb516) (o := .cells #[.bool a0_0, .int .i64 a0_1, .bool a0_2, .int .i64 a0_3, .slice A0_4 l0_4.length c0_4] 24 (0, 0)) (by (with_reducible repeat (first | refine blk_drewN ?_ _ | refine blk_drew ?_ | refine blk_alloc ?_ _)); exact BK516.out) hb); have n1_ := Aside0.mk (blk_below (g := gb517) (o := .cells #[.bool a1_0, .int .i64 a1_1, .bool a1_2, .int .i64 a1_3, .slice A1_4 l1_4.length c1_4] 24 (0, 0)) (by (with_reducible repeat (first | refine blk_drewN ?_ _ | refine blk_drew ?_ | refine blk_alloc ?_ _)); exact BK517.out) hb); have n2_ := Aside0.mk (below_step (by repeat (first | (with_reducible first | exact HB.out | apply below_alloc | apply pw_below_drewN | apply below_drew1 | refine below_set ?_ GE516.out | refine below_set ?_ GE517.out) | exact HB.out)) hb); clear BK516; clear BK517; clear HB; have BK516 := n0_; have BK517 := n1_; have HB := n2_; clear n0_ n1_ n2_; (try clear hb); (try clear hb2); (try clear hk); (try clear hi); have hcz30_0 : w29.cell? ⟨gb517, 0, none⟩ = some (.bool a1_0) := (blk_cell BK517.out 0).trans rfl; have hcz30_1 : w29.cell? ⟨gb517, 1, none⟩ = some (.int .i64 a1_1) := (blk_cell BK517.out 1).trans rfl; have hcz30_2 : w29.cell? ⟨gb517, 2, none⟩ = some (.bool a1_2) := (blk_cell BK517.out 2).trans rfl; have hcz30_3 : w29.cell? ⟨gb517, 3, none⟩ = some (.int .i64 a1_3) := (blk_cell BK517.out 3).trans rfl; have hcz30_4 : w29.cell? ⟨gb517, 4, none⟩ = some (.slice A1_4 l1_4.length c1_4) := (blk_cell BK517.out 4).trans rfl; have hfz30_0 := blk_frozen BK517.out 0; have hfz30_1 := blk_frozen BK517.out 1; have hfz30_2 := blk_frozen BK517.out 2; have hfz30_3 := blk_frozen BK517.out 3; have hfz30_4 := blk_frozen BK517.out 4) | (go_at_call 13; (with_reducible refine (phaetonref04_Right.calls k a1_0 a1_1 a1_2 a1_3 _ _ l1_4 t522 _ ?side1 ?side2 A22.out).mono ?_); (case side1 => repeat (first | exact (Kd.C_below HR1_4.out HB.out) | (with_reducible refine Kd.C_alloc ?_ _) | (with_reducible refine Kd.C_drewN ?_ _) | (with_reducible refine Kd.C_drew ?_))); (case side2 => exact HC1_4.out); rintro e w31 ⟨rfl, hb⟩; have n0_ := Aside0.mk (blk_below (g := gb516) (o := .cells #[.bool a0_0, .int .i64 a0_1, .bool a0_2, .int .i64 a0_3, .slice A0_4 l0_4.length c0_4] 24 (0, 0)) (by (with_reducible repeat (first | refine blk_drewN ?_ _ | refine blk_drew ?_ | refine blk_alloc ?_ _)); exact BK516.out) hb); have n1_ := Aside0.mk (blk_below (g := gb517) (o := .cells #[.bool a1_0, .int .i64 a1_1, .bool a1_2, .int .i64 a1_3, .slice A1_4 l1_4.length c1_4] 24 (0, 0)) (by (with_reducible repeat (first | refine blk_drewN ?_ _ | refine blk_drew ?_ | refine blk_alloc ?_ _)); exact BK517.out) hb); have n2_ := Aside0.mk (below_step (by repeat (first | (with_reducible first | exact HB.out | apply below_alloc | apply pw_below_drewN | apply below_drew1 | refine below_set ?_ GE516.out | refine below_set ?_ GE517.out) | exact HB.out)) hb); clear BK516; clear BK517; clear HB; have BK516 := n0_; have BK517 := n1_; have HB := n2_; clear n0_ n1_ n2_; (try clear hb); (try clear hb2); (try clear hk); (try clear hi))))
          go_meet
          case rel => exact ⟨_, (!t522), (by first | rfl | (simp; done) | (simp [*]; done)), H', ⟨by first | omega | exact Nat.le_refl _⟩, ⟨by (with_reducible repeat (first | refine blk_drewN ?_ _ | refine blk_drew ?_ | refine blk_alloc ?_ _)); exact BK516.out⟩, ⟨by (with_reducible repeat (first | refine blk_drewN ?_ _ | refine blk_drew ?_ | refine blk_alloc ?_ _)); exact BK517.out⟩, ⟨by repeat (first | (with_reducible first | exact HB.out | apply below_alloc | apply pw_below_drewN | apply below_drew1 | refine below_set ?_ GE516.out | refine below_set ?_ GE517.out) | exact HB.out)⟩⟩
        · replace c21 := Bool.eq_false_iff.mpr c21
          subst c21
          have H1 : (phaetonlaw04_FrameOrder.j0 k t518 true a0_0 a0_1 a0_2 a0_3 l0_4 a1_0 a1_1 a1_2 a1_3 l1_4) = some r := by rw [if_neg (show ¬ (false = true) by decide)] at H; exact H
          clear H
          have H := H1
          clear H1
          have H' := Aside0.mk H
          clear H
          have hnb32 := NB516_517.out
          have hnc32 := NB517_516.out
          have hcz33_0 : w7.cell? ⟨gb516, 0, none⟩ = some (.bool a0_0) := (blk_cell BK516.out 0).trans rfl
          have hcz33_1 : w7.cell? ⟨gb516, 1, none⟩ = some (.int .i64 a0_1) := (blk_cell BK516.out 1).trans rfl
          have hcz33_2 : w7.cell? ⟨gb516, 2, none⟩ = some (.bool a0_2) := (blk_cell BK516.out 2).trans rfl
          have hcz33_3 : w7.cell? ⟨gb516, 3, none⟩ = some (.int .i64 a0_3) := (blk_cell BK516.out 3).trans rfl
          have hcz33_4 : w7.cell? ⟨gb516, 4, none⟩ = some (.slice A0_4 l0_4.length c0_4) := (blk_cell BK516.out 4).trans rfl
          have hfz33_0 := blk_frozen BK516.out 0
          have hfz33_1 := blk_frozen BK516.out 1
          have hfz33_2 := blk_frozen BK516.out 2
          have hfz33_3 := blk_frozen BK516.out 3
          have hfz33_4 := blk_frozen BK516.out 4
          go_wp2_with (first | ((with_reducible refine gate_store (t := 24) (p := 3) rfl ?_); refine HW.store_box2 rfl rfl 24 _ _ rfl rfl rfl BK517.out rfl (by kernel_rfl) (by intro q hq; simp only [List.mem_cons, List.not_mem_nil, or_false] at hq; rcases hq with rfl | rfl | rfl | rfl | rfl <;> rfl) ?_; intro w1_ hw1_ hk1_; simp only [List.toList_toArray, World.setCells, Nat.zero_add, Nat.reduceAdd] at hw1_; subst hw1_; have hcb517_0 := (blk_cell hk1_ 0).trans rfl; have hfb517_0 := blk_frozen hk1_ 0; have hcb517_1 := (blk_cell hk1_ 1).trans rfl; have hfb517_1 := blk_frozen hk1_ 1; have hcb517_2 := (blk_cell hk1_ 2).trans rfl; have hfb517_2 := blk_frozen hk1_ 2; have hcb517_3 := (blk_cell hk1_ 3).trans rfl; have hfb517_3 := blk_frozen hk1_ 3; have hcb517_4 := (blk_cell hk1_ 4).trans rfl; have hfb517_4 := blk_frozen hk1_ 4; clear hk1_) | ((with_reducible refine gate_store (t := 24) (p := 2) rfl ?_); refine HW.store_box2 rfl rfl 24 _ _ rfl rfl rfl BK516.out rfl (by kernel_rfl) (by intro q hq; simp only [List.mem_cons, List.not_mem_nil, or_false] at hq; rcases hq with rfl | rfl | rfl | rfl | rfl <;> rfl) ?_; intro w1_ hw1_ hk1_; simp only [List.toList_toArray, World.setCells, Nat.zero_add, Nat.reduceAdd] at hw1_; subst hw1_; have hcb516_0 := (blk_cell hk1_ 0).trans rfl; have hfb516_0 := blk_frozen hk1_ 0; have hcb516_1 := (blk_cell hk1_ 1).trans rfl; have hfb516_1 := blk_frozen hk1_ 1; have hcb516_2 := (blk_cell hk1_ 2).trans rfl; have hfb516_2 := blk_frozen hk1_ 2; have hcb516_3 := (blk_cell hk1_ 3).trans rfl; have hfb516_3 := blk_frozen hk1_ 3; have hcb516_4 := (blk_cell hk1_ 4).trans rfl; have hfb516_4 := blk_frozen hk1_ 4; clear hk1_) | (go_at_call 11; (with_reducible refine (phaetonlaw04_Great.calls a0_0 a0_1 a0_2 a0_3 _ _ l0_4 false _ ?side1 ?side2 A8.out).mono ?_); (case side1 => repeat (first | exact (Kd.C_below HR0_4.out HB.out) | (with_reducible refine Kd.C_alloc ?_ _) | (with_reducible refine Kd.C_drewN ?_ _) | (with_reducible refine Kd.C_drew ?_))); (case side2 => exact HC0_4.out); rintro e w34 ⟨rfl, hb⟩; have n0_ := Aside0.mk (blk_below (g := gb516) (o := .cells #[.bool a0_0, .int .i64 a0_1, .bool a0_2, .int .i64 a0_3, .slice A0_4 l0_4.length c0_4] 24 (0, 0)) (by (with_reducible repeat (first | refine blk_drewN ?_ _ | refine blk_drew ?_ | refine blk_alloc ?_ _)); exact BK516.out) hb); have n1_ := Aside0.mk (blk_below (g := gb517) (o := .cells #[.bool a1_0, .int .i64 a1_1, .bool a1_2, .int .i64 a1_3, .slice A1_4 l1_4.length c1_4] 24 (0, 0)) (by (with_reducible repeat (first | refine blk_drewN ?_ _ | refine blk_drew ?_ | refine blk_alloc ?_ _)); exact BK517.out) hb); have n2_ := Aside0.mk (below_step (by repeat (first | (with_reducible first | exact HB.out | apply below_alloc | apply pw_below_drewN | apply below_drew1 | refine below_set ?_ GE516.out | refine below_set ?_ GE517.out) | exact HB.out)) hb); clear BK516; clear BK517; clear HB; have BK516 := n0_; have BK517 := n1_; have HB := n2_; clear n0_ n1_ n2_; (try clear hb); (try clear hb2); (try clear hk); (try clear hi); have hcz35_0 : w34.cell? ⟨gb517, 0, none⟩ = some (.bool a1_0) := (blk_cell BK517.out 0).trans rfl; have hcz35_1 : w34.cell? ⟨gb517, 1, none⟩ = some (.int .i64 a1_1) := (blk_cell BK517.out 1).trans rfl; have hcz35_2 : w34.cell? ⟨gb517, 2, none⟩ = some (.bool a1_2) := (blk_cell BK517.out 2).trans rfl; have hcz35_3 : w34.cell? ⟨gb517, 3, none⟩ = some (.int .i64 a1_3) := (blk_cell BK517.out 3).trans rfl; have hcz35_4 : w34.cell? ⟨gb517, 4, none⟩ = some (.slice A1_4 l1_4.length c1_4) := (blk_cell BK517.out 4).trans rfl; have hfz35_0 := blk_frozen BK517.out 0; have hfz35_1 := blk_frozen BK517.out 1; have hfz35_2 := blk_frozen BK517.out 2; have hfz35_3 := blk_frozen BK517.out 3; have hfz35_4 := blk_frozen BK517.out 4) | (go_at_call 11; (with_reducible refine (phaetonlaw04_Great.calls a1_0 a1_1 a1_2 a1_3 _ _ l1_4 false _ ?side1 ?side2 A13.out).mono ?_); (case side1 => repeat (first | exact (Kd.C_below HR1_4.out HB.out) | (with_reducible refine Kd.C_alloc ?_ _) | (with_reducible refine Kd.C_drewN ?_ _) | (with_reducible refine Kd.C_drew ?_))); (case side2 => exact HC1_4.out); rintro e w36 ⟨rfl, hb⟩; have n0_ := Aside0.mk (blk_below (g := gb516) (o := .cells #[.bool a0_0, .int .i64 a0_1, .bool a0_2, .int .i64 a0_3, .slice A0_4 l0_4.length c0_4] 24 (0, 0)) (by (with_reducible repeat (first | refine blk_drewN ?_ _ | refine blk_drew ?_ | refine blk_alloc ?_ _)); exact BK516.out) hb); have n1_ := Aside0.mk (blk_below (g := gb517) (o := .cells #[.bool a1_0, .int .i64 a1_1, .bool a1_2, .int .i64 a1_3, .slice A1_4 l1_4.length c1_4] 24 (0, 0)) (by (with_reducible repeat (first | refine blk_drewN ?_ _ | refine blk_drew ?_ | refine blk_alloc ?_ _)); exact BK517.out) hb); have n2_ := Aside0.mk (below_step (by repeat (first | (with_reducible first | exact HB.out | apply below_alloc | apply pw_below_drewN | apply below_drew1 | refine below_set ?_ GE516.out | refine below_set ?_ GE517.out) | exact HB.out)) hb); clear BK516; clear BK517; clear HB; have BK516 := n0_; have BK517 := n1_; have HB := n2_; clear n0_ n1_ n2_; (try clear hb); (try clear hb2); (try clear hk); (try clear hi); have hcz37_0 : w36.cell? ⟨gb516, 0, none⟩ = some (.bool a0_0) := (blk_cell BK516.out 0).trans rfl; have hcz37_1 : w36.cell? ⟨gb516, 1, none⟩ = some (.int .i64 a0_1) := (blk_cell BK516.out 1).trans rfl; have hcz37_2 : w36.cell? ⟨gb516, 2, none⟩ = some (.bool a0_2) := (blk_cell BK516.out 2).trans rfl; have hcz37_3 : w36.cell? ⟨gb516, 3, none⟩ = some (.int .i64 a0_3) := (blk_cell BK516.out 3).trans rfl; have hcz37_4 : w36.cell? ⟨gb516, 4, none⟩ = some (.slice A0_4 l0_4.length c0_4) := (blk_cell BK516.out 4).trans rfl; have hfz37_0 := blk_frozen BK516.out 0; have hfz37_1 := blk_frozen BK516.out 1; have hfz37_2 := blk_frozen BK516.out 2; have hfz37_3 := blk_frozen BK516.out 3; have hfz37_4 := blk_frozen BK516.out 4) | (go_at_call 13; (with_reducible refine (phaetonref04_Right.calls k a0_0 a0_1 a0_2 a0_3 _ _ l0_4 false _ ?side1 ?side2 A20.out).mono ?_); (case side1 => repeat (first | exact (Kd.C_below HR0_4.out HB.out) | (with_reducible refine Kd.C_alloc ?_ _) | (with_reducible refine Kd.C_drewN ?_ _) | (with_reducible refine Kd.C_drew ?_))); (case side2 => exact HC0_4.out); rintro e w38 ⟨rfl, hb⟩; have n0_ := Aside0.mk (blk_below (g := gb516) (o := .cells #[.bool a0_0, .int .i64 a0_1, .bool a0_2, .int .i64 a0_3, .slice A0_4 l0_4.length c0_4] 24 (0, 0)) (by (with_reducible repeat (first | refine blk_drewN ?_ _ | refine blk_drew ?_ | refine blk_alloc ?_ _)); exact BK516.out) hb); have n1_ := Aside0.mk (blk_below (g := gb517) (o := .cells #[.bool a1_0, .int .i64 a1_1, .bool a1_2, .int .i64 a1_3, .slice A1_4 l1_4.length c1_4] 24 (0, 0)) (by (with_reducible repeat (first | refine blk_drewN ?_ _ | refine blk_drew ?_ | refine blk_alloc ?_ _)); exact BK517.out) hb); have n2_ := Aside0.mk (below_step (by repeat (first | (with_reducible first | exact HB.out | apply below_alloc | apply pw_below_drewN | apply below_drew1 | refine below_set ?_ GE516.out | refine below_set ?_ GE517.out) | exact HB.out)) hb); clear BK516; clear BK517; clear HB; have BK516 := n0_; have BK517 := n1_; have HB := n2_; clear n0_ n1_ n2_; (try clear hb); (try clear hb2); (try clear hk); (try clear hi)))
          repeat (go_quiet (first | (go_at_call 11; (with_reducible refine (phaetonlaw04_Great.calls a0_0 a0_1 a0_2 a0_3 _ _ l0_4 false _ ?side1 ?side2 A8.out).mono ?_); (case side1 => repeat (first | exact (Kd.C_below HR0_4.out HB.out) | (with_reducible refine Kd.C_alloc ?_ _) | (with_reducible refine Kd.C_drewN ?_ _) | (with_reducible refine Kd.C_drew ?_))); (case side2 => exact HC0_4.out); rintro e w34 ⟨rfl, hb⟩; have n0_ := Aside0.mk (blk_below (g := gb516) (o := .cells #[.bool a0_0, .int .i64 a0_1, .bool a0_2, .int .i64 a0_3, .slice A0_4 l0_4.length c0_4] 24 (0, 0)) (by (with_reducible repeat (first | refine blk_drewN ?_ _ | refine blk_drew ?_ | refine blk_alloc ?_ _)); exact BK516.out) hb); have n1_ := Aside0.mk (blk_below (g := gb517) (o := .cells #[.bool a1_0, .int .i64 a1_1, .bool a1_2, .int .i64 a1_3, .slice A1_4 l1_4.length c1_4] 24 (0, 0)) (by (with_reducible repeat (first | refine blk_drewN ?_ _ | refine blk_drew ?_ | refine blk_alloc ?_ _)); exact BK517.out) hb); have n2_ := Aside0.mk (below_step (by repeat (first | (with_reducible first | exact HB.out | apply below_alloc | apply pw_below_drewN | apply below_drew1 | refine below_set ?_ GE516.out | refine below_set ?_ GE517.out) | exact HB.out)) hb); clear BK516; clear BK517; clear HB; have BK516 := n0_; have BK517 := n1_; have HB := n2_; clear n0_ n1_ n2_; (try clear hb); (try clear hb2); (try clear hk); (try clear hi); have hcz35_0 : w34.cell? ⟨gb517, 0, none⟩ = some (.bool a1_0) := (blk_cell BK517.out 0).trans rfl; have hcz35_1 : w34.cell? ⟨gb517, 1, none⟩ = some (.int .i64 a1_1) := (blk_cell BK517.out 1).trans rfl; have hcz35_2 : w34.cell? ⟨gb517, 2, none⟩ = some (.bool a1_2) := (blk_cell BK517.out 2).trans rfl; have hcz35_3 : w34.cell? ⟨gb517, 3, none⟩ = some (.int .i64 a1_3) := (blk_cell BK517.out 3).trans rfl; have hcz35_4 : w34.cell? ⟨gb517, 4, none⟩ = some (.slice A1_4 l1_4.length c1_4) := (blk_cell BK517.out 4).trans rfl; have hfz35_0 := blk_frozen BK517.out 0; have hfz35_1 := blk_frozen BK517.out 1; have hfz35_2 := blk_frozen BK517.out 2; have hfz35_3 := blk_frozen BK517.out 3; have hfz35_4 := blk_frozen BK517.out 4) | (go_at_call 11; (with_reducible refine (phaetonlaw04_Great.calls a1_0 a1_1 a1_2 a1_3 _ _ l1_4 false _ ?side1 ?side2 A13.out).mono ?_); (case side1 => repeat (first | exact (Kd.C_below HR1_4.out HB.out) | (with_reducible refine Kd.C_alloc ?_ _) | (with_reducible refine Kd.C_drewN ?_ _) | (with_reducible refine Kd.C_drew ?_))); (case side2 => exact HC1_4.out); rintro e w36 ⟨rfl, hb⟩; have n0_ := Aside0.mk (blk_below (g := gb516) (o := .cells #[.bool a0_0, .int .i64 a0_1, .bool a0_2, .int .i64 a0_3, .slice A0_4 l0_4.length c0_4] 24 (0, 0)) (by (with_reducible repeat (first | refine blk_drewN ?_ _ | refine blk_drew ?_ | refine blk_alloc ?_ _)); exact BK516.out) hb); have n1_ := Aside0.mk (blk_below (g := gb517) (o := .cells #[.bool a1_0, .int .i64 a1_1, .bool a1_2, .int .i64 a1_3, .slice A1_4 l1_4.length c1_4] 24 (0, 0)) (by (with_reducible repeat (first | refine blk_drewN ?_ _ | refine blk_drew ?_ | refine blk_alloc ?_ _)); exact BK517.out) hb); have n2_ := Aside0.mk (below_step (by repeat (first | (with_reducible first | exact HB.out | apply below_alloc | apply pw_below_drewN | apply below_drew1 | refine below_set ?_ GE516.out | refine below_set ?_ GE517.out) | exact HB.out)) hb); clear BK516; clear BK517; clear HB; have BK516 := n0_; have BK517 := n1_; have HB := n2_; clear n0_ n1_ n2_; (try clear hb); (try clear hb2); (try clear hk); (try clear hi); have hcz37_0 : w36.cell? ⟨gb516, 0, none⟩ = some (.bool a0_0) := (blk_cell BK516.out 0).trans rfl; have hcz37_1 : w36.cell? ⟨gb516, 1, none⟩ = some (.int .i64 a0_1) := (blk_cell BK516.out 1).trans rfl; have hcz37_2 : w36.cell? ⟨gb516, 2, none⟩ = some (.bool a0_2) := (blk_cell BK516.out 2).trans rfl; have hcz37_3 : w36.cell? ⟨gb516, 3, none⟩ = some (.int .i64 a0_3) := (blk_cell BK516.out 3).trans rfl; have hcz37_4 : w36.cell? ⟨gb516, 4, none⟩ = some (.slice A0_4 l0_4.length c0_4) := (blk_cell BK516.out 4).trans rfl; have hfz37_0 := blk_frozen BK516.out 0; have hfz37_1 := blk_frozen BK516.out 1; have hfz37_2 := blk_frozen BK516.out 2; have hfz37_3 := blk_frozen BK516.out 3; have hfz37_4 := blk_frozen BK516.out 4) | (go_at_call 13; (with_reducible refine (phaetonref04_Right.calls k a0_0 a0_1 a0_2 a0_3 _ _ l0_4 false _ ?side1 ?side2 A20.out).mono ?_); (case side1 => repeat (first | exact (Kd.C_below HR0_4.out HB.out) | (with_reducible refine Kd.C_alloc ?_ _) | (with_reducible refine Kd.C_drewN ?_ _) | (with_reducible refine Kd.C_drew ?_))); (case side2 => exact HC0_4.out); rintro e w38 ⟨rfl, hb⟩; have n0_ := Aside0.mk (blk_below (g := gb516) (o := .cells #[.bool a0_0, .int .i64 a0_1, .bool a0_2, .int .i64 a0_3, .slice A0_4 l0_4.length c0_4] 24 (0, 0)) (by (with_reducible repeat (first | refine blk_drewN ?_ _ | refine blk_drew ?_ | refine blk_alloc ?_ _)); exact BK516.out) hb); have n1_ := Aside0.mk (blk_below (g := gb517) (o := .cells #[.bool a1_0, .int .i64 a1_1, .bool a1_2, .int .i64 a1_3, .slice A1_4 l1_4.length c1_4] 24 (0, 0)) (by (with_reducible repeat (first | refine blk_drewN ?_ _ | refine blk_drew ?_ | refine blk_alloc ?_ _)); exact BK517.out) hb); have n2_ := Aside0.mk (below_step (by repeat (first | (with_reducible first | exact HB.out | apply below_alloc | apply pw_below_drewN | apply below_drew1 | refine below_set ?_ GE516.out | refine below_set ?_ GE517.out) | exact HB.out)) hb); clear BK516; clear BK517; clear HB; have BK516 := n0_; have BK517 := n1_; have HB := n2_; clear n0_ n1_ n2_; (try clear hb); (try clear hb2); (try clear hk); (try clear hi))); try go_wp2_with (first | (go_at_call 11; (with_reducible refine (phaetonlaw04_Great.calls a0_0 a0_1 a0_2 a0_3 _ _ l0_4 false _ ?side1 ?side2 A8.out).mono ?_); (case side1 => repeat (first | exact (Kd.C_below HR0_4.out HB.out) | (with_reducible refine Kd.C_alloc ?_ _) | (with_reducible refine Kd.C_drewN ?_ _) | (with_reducible refine Kd.C_drew ?_))); (case side2 => exact HC0_4.out); rintro e w34 ⟨rfl, hb⟩; have n0_ := Aside0.mk (blk_below (g := gb516) (o := .cells #[.bool a0_0, .int .i64 a0_1, .bool a0_2, .int .i64 a0_3, .slice A0_4 l0_4.length c0_4] 24 (0, 0)) (by (with_reducible repeat (first | refine blk_drewN ?_ _ | refine blk_drew ?_ | refine blk_alloc ?_ _)); exact BK516.out) hb); have n1_ := Aside0.mk (blk_below (g := gb517) (o := .cells #[.bool a1_0, .int .i64 a1_1, .bool a1_2, .int .i64 a1_3, .slice A1_4 l1_4.length c1_4] 24 (0, 0)) (by (with_reducible repeat (first | refine blk_drewN ?_ _ | refine blk_drew ?_ | refine blk_alloc ?_ _)); exact BK517.out) hb); have n2_ := Aside0.mk (below_step (by repeat (first | (with_reducible first | exact HB.out | apply below_alloc | apply pw_below_drewN | apply below_drew1 | refine below_set ?_ GE516.out | refine below_set ?_ GE517.out) | exact HB.out)) hb); clear BK516; clear BK517; clear HB; have BK516 := n0_; have BK517 := n1_; have HB := n2_; clear n0_ n1_ n2_; (try clear hb); (try clear hb2); (try clear hk); (try clear hi); have hcz35_0 : w34.cell? ⟨gb517, 0, none⟩ = some (.bool a1_0) := (blk_cell BK517.out 0).trans rfl; have hcz35_1 : w34.cell? ⟨gb517, 1, none⟩ = some (.int .i64 a1_1) := (blk_cell BK517.out 1).trans rfl; have hcz35_2 : w34.cell? ⟨gb517, 2, none⟩ = some (.bool a1_2) := (blk_cell BK517.out 2).trans rfl; have hcz35_3 : w34.cell? ⟨gb517, 3, none⟩ = some (.int .i64 a1_3) := (blk_cell BK517.out 3).trans rfl; have hcz35_4 : w34.cell? ⟨gb517, 4, none⟩ = some (.slice A1_4 l1_4.length c1_4) := (blk_cell BK517.out 4).trans rfl; have hfz35_0 := blk_frozen BK517.out 0; have hfz35_1 := blk_frozen BK517.out 1; have hfz35_2 := blk_frozen BK517.out 2; have hfz35_3 := blk_frozen BK517.out 3; have hfz35_4 := blk_frozen BK517.out 4) | (go_at_call 11; (with_reducible refine (phaetonlaw04_Great.calls a1_0 a1_1 a1_2 a1_3 _ _ l1_4 false _ ?side1 ?side2 A13.out).mono ?_); (case side1 => repeat (first | exact (Kd.C_below HR1_4.out HB.out) | (with_reducible refine Kd.C_alloc ?_ _) | (with_reducible refine Kd.C_drewN ?_ _) | (with_reducible refine Kd.C_drew ?_))); (case side2 => exact HC1_4.out); rintro e w36 ⟨rfl, hb⟩; have n0_ := Aside0.mk (blk_below (g := gb516) (o := .cells #[.bool a0_0, .int .i64 a0_1, .bool a0_2, .int .i64 a0_3, .slice A0_4 l0_4.length c0_4] 24 (0, 0)) (by (with_reducible repeat (first | refine blk_drewN ?_ _ | refine blk_drew ?_ | refine blk_alloc ?_ _)); exact BK516.out) hb); have n1_ := Aside0.mk (blk_below (g := gb517) (o := .cells #[.bool a1_0, .int .i64 a1_1, .bool a1_2, .int .i64 a1_3, .slice A1_4 l1_4.length c1_4] 24 (0, 0)) (by (with_reducible repeat (first | refine blk_drewN ?_ _ | refine blk_drew ?_ | refine blk_alloc ?_ _)); exact BK517.out) hb); have n2_ := Aside0.mk (below_step (by repeat (first | (with_reducible first | exact HB.out | apply below_alloc | apply pw_below_drewN | apply below_drew1 | refine below_set ?_ GE516.out | refine below_set ?_ GE517.out) | exact HB.out)) hb); clear BK516; clear BK517; clear HB; have BK516 := n0_; have BK517 := n1_; have HB := n2_; clear n0_ n1_ n2_; (try clear hb); (try clear hb2); (try clear hk); (try clear hi); have hcz37_0 : w36.cell? ⟨gb516, 0, none⟩ = some (.bool a0_0) := (blk_cell BK516.out 0).trans rfl; have hcz37_1 : w36.cell? ⟨gb516, 1, none⟩ = some (.int .i64 a0_1) := (blk_cell BK516.out 1).trans rfl; have hcz37_2 : w36.cell? ⟨gb516, 2, none⟩ = some (.bool a0_2) := (blk_cell BK516.out 2).trans rfl; have hcz37_3 : w36.cell? ⟨gb516, 3, none⟩ = some (.int .i64 a0_3) := (blk_cell BK516.out 3).trans rfl; have hcz37_4 : w36.cell? ⟨gb516, 4, none⟩ = some (.slice A0_4 l0_4.length c0_4) := (blk_cell BK516.out 4).trans rfl; have hfz37_0 := blk_frozen BK516.out 0; have hfz37_1 := blk_frozen BK516.out 1; have hfz37_2 := blk_frozen BK516.out 2; have hfz37_3 := blk_frozen BK516.out 3; have hfz37_4 := blk_frozen BK516.out 4) | (go_at_call 13; (with_reducible refine (phaetonref04_Right.calls k a0_0 a0_1 a0_2 a0_3 _ _ l0_4 false _ ?side1 ?side2 A20.out).mono ?_); (case side1 => repeat (first | exact (Kd.C_below HR0_4.out HB.out) | (with_reducible refine Kd.C_alloc ?_ _) | (with_reducible refine Kd.C_drewN ?_ _) | (with_reducible refine Kd.C_drew ?_))); (case side2 => exact HC0_4.out); rintro e w38 ⟨rfl, hb⟩; have n0_ := Aside0.mk (blk_below (g := gb516) (o := .cells #[.bool a0_0, .int .i64 a0_1, .bool a0_2, .int .i64 a0_3, .slice A0_4 l0_4.length c0_4] 24 (0, 0)) (by (with_reducible repeat (first | refine blk_drewN ?_ _ | refine blk_drew ?_ | refine blk_alloc ?_ _)); exact BK516.out) hb); have n1_ := Aside0.mk (blk_below (g := gb517) (o := .cells #[.bool a1_0, .int .i64 a1_1, .bool a1_2, .int .i64 a1_3, .slice A1_4 l1_4.length c1_4] 24 (0, 0)) (by (with_reducible repeat (first | refine blk_drewN ?_ _ | refine blk_drew ?_ | refine blk_alloc ?_ _)); exact BK517.out) hb); have n2_ := Aside0.mk (below_step (by repeat (first | (with_reducible first | exact HB.out | apply below_alloc | apply pw_below_drewN | apply below_drew1 | refine below_set ?_ GE516.out | refine below_set ?_ GE517.out) | exact HB.out)) hb); clear BK516; clear BK517; clear HB; have BK516 := n0_; have BK517 := n1_; have HB := n2_; clear n0_ n1_ n2_; (try clear hb); (try clear hb2); (try clear hk); (try clear hi))))
          go_meet
          case rel => exact ⟨_, (true), (by first | rfl | (simp; done) | (simp [*]; done)), H', ⟨by first | omega | exact Nat.le_refl _⟩, ⟨by (with_reducible repeat (first | refine blk_drewN ?_ _ | refine blk_drew ?_ | refine blk_alloc ?_ _)); exact BK516.out⟩, ⟨by (with_reducible repeat (first | refine blk_drewN ?_ _ | refine blk_drew ?_ | refine blk_alloc ?_ _)); exact BK517.out⟩, ⟨by repeat (first | (with_reducible first | exact HB.out | apply below_alloc | apply pw_below_drewN | apply below_drew1 | refine below_set ?_ GE516.out | refine below_set ?_ GE517.out) | exact HB.out)⟩⟩
  case rest =>
    clear HC4
    try clear c1
    try clear c2
    try clear p2
    try clear c3
    try clear c7
    try clear c9
    try clear c10
    try clear c14
    try clear c15
    try clear c21
    try clear c23
    try clear c32
    try clear hcz11_0
    try clear hcz11_1
    try clear hcz11_2
    try clear hcz11_3
    try clear hcz11_4
    try clear hcz16_0
    try clear hcz16_1
    try clear hcz16_2
    try clear hcz16_3
    try clear hcz16_4
    try clear hcz18_0
    try clear hcz18_1
    try clear hcz18_2
    try clear hcz18_3
    try clear hcz18_4
    try clear hcz24_0
    try clear hcz24_1
    try clear hcz24_2
    try clear hcz24_3
    try clear hcz24_4
    try clear hcz26_0
    try clear hcz26_1
    try clear hcz26_2
    try clear hcz26_3
    try clear hcz26_4
    try clear hcz28_0
    try clear hcz28_1
    try clear hcz28_2
    try clear hcz28_3
    try clear hcz28_4
    try clear hcz30_0
    try clear hcz30_1
    try clear hcz30_2
    try clear hcz30_3
    try clear hcz30_4
    try clear hcz33_0
    try clear hcz33_1
    try clear hcz33_2
    try clear hcz33_3
    try clear hcz33_4
    try clear hcz35_0
    try clear hcz35_1
    try clear hcz35_2
    try clear hcz35_3
    try clear hcz35_4
    try clear hcz37_0
    try clear hcz37_1
    try clear hcz37_2
    try clear hcz37_3
    try clear hcz37_4
    try clear hfz11_0
    try clear hfz11_1
    try clear hfz11_2
    try clear hfz11_3
    try clear hfz11_4
    try clear hfz16_0
    try clear hfz16_1
    try clear hfz16_2
    try clear hfz16_3
    try clear hfz16_4
    try clear hfz18_0
    try clear hfz18_1
    try clear hfz18_2
    try clear hfz18_3
    try clear hfz18_4
    try clear hfz24_0
    try clear hfz24_1
    try clear hfz24_2
    try clear hfz24_3
    try clear hfz24_4
    try clear hfz26_0
    try clear hfz26_1
    try clear hfz26_2
    try clear hfz26_3
    try clear hfz26_4
    try clear hfz28_0
    try clear hfz28_1
    try clear hfz28_2
    try clear hfz28_3
    try clear hfz28_4
    try clear hfz30_0
    try clear hfz30_1
    try clear hfz30_2
    try clear hfz30_3
    try clear hfz30_4
    try clear hfz33_0
    try clear hfz33_1
    try clear hfz33_2
    try clear hfz33_3
    try clear hfz33_4
    try clear hfz35_0
    try clear hfz35_1
    try clear hfz35_2
    try clear hfz35_3
    try clear hfz35_4
    try clear hfz37_0
    try clear hfz37_1
    try clear hfz37_2
    try clear hfz37_3
    try clear hfz37_4
    obtain ⟨kq, x26_3, rfl, HA, HJ3, BK516, BK517, HB⟩ := hcut
    cases kq with
    | zero => exact absurd HA.out (by simp [phaetonlaw04_FrameOrder.j0])
    | succ kj3 =>
      have H := HA.out
      clear HA
      simp only [phaetonlaw04_FrameOrder.j0] at H
      by_cases c39 : x26_3 = true
      · subst c39
        have H1 : (if t518 = true then (some true) else (none)) = some r := by rw [if_pos rfl] at H; exact H
        clear H
        have H := H1
        clear H1
        by_cases c40 : t518 = true
        · subst c40
          have H1 : (some true) = some r := by rw [if_pos rfl] at H; exact H
          clear H
          have H := H1
          clear H1
          obtain rfl := Option.some.inj H
          go_wp2
          repeat (go_quiet (fail); try go_wp2)
          go_ret
          exact ⟨by first | rfl | (simp [errW_none, errW_some] <;> rfl) | (simp [*, errW_none, errW_some] <;> rfl), by repeat (first | (with_reducible first | exact HB.out | apply below_alloc | apply pw_below_drewN | apply below_drew1 | refine below_set ?_ GE516.out | refine below_set ?_ GE517.out) | exact HB.out)⟩
        · replace c40 := Bool.eq_false_iff.mpr c40
          subst c40
          have H1 : (none) = some r := by rw [if_neg (show ¬ (false = true) by decide)] at H; exact H
          clear H
          have H := H1
          clear H1
          exact absurd H (by simp)
      · replace c39 := Bool.eq_false_iff.mpr c39
        subst c39
        have H1 : ((frame_Rank.f a0_0 a0_1 a0_2 a0_3 l0_4).bind fun t523 => ((frame_Rank.f a1_0 a1_1 a1_2 a1_3 l1_4).bind fun t526 => (phaetonlaw04_FrameOrder.l0 kj3 t518 t523 t526 0 0 a0_0 a0_1 a0_2 a0_3 l0_4 a1_0 a1_1 a1_2 a1_3 l1_4))) = some r := by rw [if_neg (show ¬ (false = true) by decide)] at H; exact H
        clear H
        have H := H1
        clear H1
        replace H := Option.bind_eq_some_iff.mp H
        obtain ⟨t523, A410, H⟩ := H
        replace H : ((frame_Rank.f a1_0 a1_1 a1_2 a1_3 l1_4).bind fun t526 => (phaetonlaw04_FrameOrder.l0 kj3 t518 t523 t526 0 0 a0_0 a0_1 a0_2 a0_3 l0_4 a1_0 a1_1 a1_2 a1_3 l1_4)) = some r := H
        have A41 := Aside0.mk A410
        clear A410
        replace H := Option.bind_eq_some_iff.mp H
        obtain ⟨t526, A420, H⟩ := H
        replace H : (phaetonlaw04_FrameOrder.l0 kj3 t518 t523 t526 0 0 a0_0 a0_1 a0_2 a0_3 l0_4 a1_0 a1_1 a1_2 a1_3 l1_4) = some r := H
        have A42 := Aside0.mk A420
        clear A420
        have HC43 := Aside0.mk H
        clear H
        have hnb44 := NB516_517.out
        have hnc44 := NB517_516.out
        have hcz45_0 : wc.cell? ⟨gb516, 0, none⟩ = some (.bool a0_0) := (blk_cell BK516.out 0).trans rfl
        have hcz45_1 : wc.cell? ⟨gb516, 1, none⟩ = some (.int .i64 a0_1) := (blk_cell BK516.out 1).trans rfl
        have hcz45_2 : wc.cell? ⟨gb516, 2, none⟩ = some (.bool a0_2) := (blk_cell BK516.out 2).trans rfl
        have hcz45_3 : wc.cell? ⟨gb516, 3, none⟩ = some (.int .i64 a0_3) := (blk_cell BK516.out 3).trans rfl
        have hcz45_4 : wc.cell? ⟨gb516, 4, none⟩ = some (.slice A0_4 l0_4.length c0_4) := (blk_cell BK516.out 4).trans rfl
        have hfz45_0 := blk_frozen BK516.out 0
        have hfz45_1 := blk_frozen BK516.out 1
        have hfz45_2 := blk_frozen BK516.out 2
        have hfz45_3 := blk_frozen BK516.out 3
        have hfz45_4 := blk_frozen BK516.out 4
        go_upto_block 0 with (first | (go_at_call 19; (with_reducible refine (frame_Rank.calls a0_0 a0_1 a0_2 a0_3 _ _ l0_4 t523 _ ?side1 ?side2 A41.out).mono ?_); (case side1 => repeat (first | exact (Kd.C_below HR0_4.out HB.out) | (with_reducible refine Kd.C_alloc ?_ _) | (with_reducible refine Kd.C_drewN ?_ _) | (with_reducible refine Kd.C_drew ?_))); (case side2 => exact HC0_4.out); rintro e w46 ⟨v524, rfl, ho0, hb⟩; have n0_ := Aside0.mk (Kd.R_lower ho0 (below_size (by repeat (first | (with_reducible first | exact HB.out | apply below_alloc | apply pw_below_drewN | apply below_drew1 | refine below_set ?_ GE516.out | refine below_set ?_ GE517.out) | exact HB.out)))); have n1_ := Aside0.mk (blk_below (g := gb516) (o := .cells #[.bool a0_0, .int .i64 a0_1, .bool a0_2, .int .i64 a0_3, .slice A0_4 l0_4.length c0_4] 24 (0, 0)) (by (with_reducible repeat (first | refine blk_drewN ?_ _ | refine blk_drew ?_ | refine blk_alloc ?_ _)); exact BK516.out) hb); have n2_ := Aside0.mk (blk_below (g := gb517) (o := .cells #[.bool a1_0, .int .i64 a1_1, .bool a1_2, .int .i64 a1_3, .slice A1_4 l1_4.length c1_4] 24 (0, 0)) (by (with_reducible repeat (first | refine blk_drewN ?_ _ | refine blk_drew ?_ | refine blk_alloc ?_ _)); exact BK517.out) hb); have n3_ := Aside0.mk (below_step (by repeat (first | (with_reducible first | exact HB.out | apply below_alloc | apply pw_below_drewN | apply below_drew1 | refine below_set ?_ GE516.out | refine below_set ?_ GE517.out) | exact HB.out)) hb); clear BK516; clear BK517; clear HB; have HO525 := n0_; have BK516 := n1_; have BK517 := n2_; have HB := n3_; clear n0_ n1_ n2_ n3_; (try clear hb); (try clear hb2); (try clear hk); (try clear hi); (try clear ho0); have hcz47_0 : w46.cell? ⟨gb517, 0, none⟩ = some (.bool a1_0) := (blk_cell BK517.out 0).trans rfl; have hcz47_1 : w46.cell? ⟨gb517, 1, none⟩ = some (.int .i64 a1_1) := (blk_cell BK517.out 1).trans rfl; have hcz47_2 : w46.cell? ⟨gb517, 2, none⟩ = some (.bool a1_2) := (blk_cell BK517.out 2).trans rfl; have hcz47_3 : w46.cell? ⟨gb517, 3, none⟩ = some (.int .i64 a1_3) := (blk_cell BK517.out 3).trans rfl; have hcz47_4 : w46.cell? ⟨gb517, 4, none⟩ = some (.slice A1_4 l1_4.length c1_4) := (blk_cell BK517.out 4).trans rfl; have hfz47_0 := blk_frozen BK517.out 0; have hfz47_1 := blk_frozen BK517.out 1; have hfz47_2 := blk_frozen BK517.out 2; have hfz47_3 := blk_frozen BK517.out 3; have hfz47_4 := blk_frozen BK517.out 4) | (go_at_call 19; (with_reducible refine (frame_Rank.calls a1_0 a1_1 a1_2 a1_3 _ _ l1_4 t526 _ ?side1 ?side2 A42.out).mono ?_); (case side1 => repeat (first | exact (Kd.C_below HR1_4.out HB.out) | (with_reducible refine Kd.C_alloc ?_ _) | (with_reducible refine Kd.C_drewN ?_ _) | (with_reducible refine Kd.C_drew ?_))); (case side2 => exact HC1_4.out); rintro e w48 ⟨v527, rfl, ho0, hb⟩; have n0_ := Aside0.mk (Kd.R_elder' (by (with_reducible repeat (first | apply Kd.R_alloc | apply Kd.R_drewN | apply Kd.R_drew)); exact HO525.out) (Kd.R_base ho0) hb); have n1_ := Aside0.mk (Kd.R_lower (Kd.R_new' ho0 (Kd.R_lt (by (with_reducible repeat (first | apply Kd.R_alloc | apply Kd.R_drewN | apply Kd.R_drew)); exact HO525.out))) (below_size (by repeat (first | (with_reducible first | exact HB.out | apply below_alloc | apply pw_below_drewN | apply below_drew1 | refine below_set ?_ GE516.out | refine below_set ?_ GE517.out) | exact HB.out)))); have n2_ := Aside0.mk (blk_below (g := gb516) (o := .cells #[.bool a0_0, .int .i64 a0_1, .bool a0_2, .int .i64 a0_3, .slice A0_4 l0_4.length c0_4] 24 (0, 0)) (by (with_reducible repeat (first | refine blk_drewN ?_ _ | refine blk_drew ?_ | refine blk_alloc ?_ _)); exact BK516.out) hb); have n3_ := Aside0.mk (blk_below (g := gb517) (o := .cells #[.bool a1_0, .int .i64 a1_1, .bool a1_2, .int .i64 a1_3, .slice A1_4 l1_4.length c1_4] 24 (0, 0)) (by (with_reducible repeat (first | refine blk_drewN ?_ _ | refine blk_drew ?_ | refine blk_alloc ?_ _)); exact BK517.out) hb); have n4_ := Aside0.mk (below_step (by repeat (first | (with_reducible first | exact HB.out | apply below_alloc | apply pw_below_drewN | apply below_drew1 | refine below_set ?_ GE516.out | refine below_set ?_ GE517.out) | exact HB.out)) hb); clear HO525; clear BK516; clear BK517; clear HB; have HO525 := n0_; have HO528 := n1_; have BK516 := n2_; have BK517 := n3_; have HB := n4_; clear n0_ n1_ n2_ n3_ n4_; (try clear hb); (try clear hb2); (try clear hk); (try clear hi); (try clear ho0)))
        repeat (go_quiet (first | (go_at_call 19; (with_reducible refine (frame_Rank.calls a0_0 a0_1 a0_2 a0_3 _ _ l0_4 t523 _ ?side1 ?side2 A41.out).mono ?_); (case side1 => repeat (first | exact (Kd.C_below HR0_4.out HB.out) | (with_reducible refine Kd.C_alloc ?_ _) | (with_reducible refine Kd.C_drewN ?_ _) | (with_reducible refine Kd.C_drew ?_))); (case side2 => exact HC0_4.out); rintro e w46 ⟨v524, rfl, ho0, hb⟩; have n0_ := Aside0.mk (Kd.R_lower ho0 (below_size (by repeat (first | (with_reducible first | exact HB.out | apply below_alloc | apply pw_below_drewN | apply below_drew1 | refine below_set ?_ GE516.out | refine below_set ?_ GE517.out) | exact HB.out)))); have n1_ := Aside0.mk (blk_below (g := gb516) (o := .cells #[.bool a0_0, .int .i64 a0_1, .bool a0_2, .int .i64 a0_3, .slice A0_4 l0_4.length c0_4] 24 (0, 0)) (by (with_reducible repeat (first | refine blk_drewN ?_ _ | refine blk_drew ?_ | refine blk_alloc ?_ _)); exact BK516.out) hb); have n2_ := Aside0.mk (blk_below (g := gb517) (o := .cells #[.bool a1_0, .int .i64 a1_1, .bool a1_2, .int .i64 a1_3, .slice A1_4 l1_4.length c1_4] 24 (0, 0)) (by (with_reducible repeat (first | refine blk_drewN ?_ _ | refine blk_drew ?_ | refine blk_alloc ?_ _)); exact BK517.out) hb); have n3_ := Aside0.mk (below_step (by repeat (first | (with_reducible first | exact HB.out | apply below_alloc | apply pw_below_drewN | apply below_drew1 | refine below_set ?_ GE516.out | refine below_set ?_ GE517.out) | exact HB.out)) hb); clear BK516; clear BK517; clear HB; have HO525 := n0_; have BK516 := n1_; have BK517 := n2_; have HB := n3_; clear n0_ n1_ n2_ n3_; (try clear hb); (try clear hb2); (try clear hk); (try clear hi); (try clear ho0); have hcz47_0 : w46.cell? ⟨gb517, 0, none⟩ = some (.bool a1_0) := (blk_cell BK517.out 0).trans rfl; have hcz47_1 : w46.cell? ⟨gb517, 1, none⟩ = some (.int .i64 a1_1) := (blk_cell BK517.out 1).trans rfl; have hcz47_2 : w46.cell? ⟨gb517, 2, none⟩ = some (.bool a1_2) := (blk_cell BK517.out 2).trans rfl; have hcz47_3 : w46.cell? ⟨gb517, 3, none⟩ = some (.int .i64 a1_3) := (blk_cell BK517.out 3).trans rfl; have hcz47_4 : w46.cell? ⟨gb517, 4, none⟩ = some (.slice A1_4 l1_4.length c1_4) := (blk_cell BK517.out 4).trans rfl; have hfz47_0 := blk_frozen BK517.out 0; have hfz47_1 := blk_frozen BK517.out 1; have hfz47_2 := blk_frozen BK517.out 2; have hfz47_3 := blk_frozen BK517.out 3; have hfz47_4 := blk_frozen BK517.out 4) | (go_at_call 19; (with_reducible refine (frame_Rank.calls a1_0 a1_1 a1_2 a1_3 _ _ l1_4 t526 _ ?side1 ?side2 A42.out).mono ?_); (case side1 => repeat (first | exact (Kd.C_below HR1_4.out HB.out) | (with_reducible refine Kd.C_alloc ?_ _) | (with_reducible refine Kd.C_drewN ?_ _) | (with_reducible refine Kd.C_drew ?_))); (case side2 => exact HC1_4.out); rintro e w48 ⟨v527, rfl, ho0, hb⟩; have n0_ := Aside0.mk (Kd.R_elder' (by (with_reducible repeat (first | apply Kd.R_alloc | apply Kd.R_drewN | apply Kd.R_drew)); exact HO525.out) (Kd.R_base ho0) hb); have n1_ := Aside0.mk (Kd.R_lower (Kd.R_new' ho0 (Kd.R_lt (by (with_reducible repeat (first | apply Kd.R_alloc | apply Kd.R_drewN | apply Kd.R_drew)); exact HO525.out))) (below_size (by repeat (first | (with_reducible first | exact HB.out | apply below_alloc | apply pw_below_drewN | apply below_drew1 | refine below_set ?_ GE516.out | refine below_set ?_ GE517.out) | exact HB.out)))); have n2_ := Aside0.mk (blk_below (g := gb516) (o := .cells #[.bool a0_0, .int .i64 a0_1, .bool a0_2, .int .i64 a0_3, .slice A0_4 l0_4.length c0_4] 24 (0, 0)) (by (with_reducible repeat (first | refine blk_drewN ?_ _ | refine blk_drew ?_ | refine blk_alloc ?_ _)); exact BK516.out) hb); have n3_ := Aside0.mk (blk_below (g := gb517) (o := .cells #[.bool a1_0, .int .i64 a1_1, .bool a1_2, .int .i64 a1_3, .slice A1_4 l1_4.length c1_4] 24 (0, 0)) (by (with_reducible repeat (first | refine blk_drewN ?_ _ | refine blk_drew ?_ | refine blk_alloc ?_ _)); exact BK517.out) hb); have n4_ := Aside0.mk (below_step (by repeat (first | (with_reducible first | exact HB.out | apply below_alloc | apply pw_below_drewN | apply below_drew1 | refine below_set ?_ GE516.out | refine below_set ?_ GE517.out) | exact HB.out)) hb); clear HO525; clear BK516; clear BK517; clear HB; have HO525 := n0_; have HO528 := n1_; have BK516 := n2_; have BK517 := n3_; have HB := n4_; clear n0_ n1_ n2_ n3_ n4_; (try clear hb); (try clear hb2); (try clear hk); (try clear hi); (try clear ho0))); go_upto_block 0 with (first | (go_at_call 19; (with_reducible refine (frame_Rank.calls a0_0 a0_1 a0_2 a0_3 _ _ l0_4 t523 _ ?side1 ?side2 A41.out).mono ?_); (case side1 => repeat (first | exact (Kd.C_below HR0_4.out HB.out) | (with_reducible refine Kd.C_alloc ?_ _) | (with_reducible refine Kd.C_drewN ?_ _) | (with_reducible refine Kd.C_drew ?_))); (case side2 => exact HC0_4.out); rintro e w46 ⟨v524, rfl, ho0, hb⟩; have n0_ := Aside0.mk (Kd.R_lower ho0 (below_size (by repeat (first | (with_reducible first | exact HB.out | apply below_alloc | apply pw_below_drewN | apply below_drew1 | refine below_set ?_ GE516.out | refine below_set ?_ GE517.out) | exact HB.out)))); have n1_ := Aside0.mk (blk_below (g := gb516) (o := .cells #[.bool a0_0, .int .i64 a0_1, .bool a0_2, .int .i64 a0_3, .slice A0_4 l0_4.length c0_4] 24 (0, 0)) (by (with_reducible repeat (first | refine blk_drewN ?_ _ | refine blk_drew ?_ | refine blk_alloc ?_ _)); exact BK516.out) hb); have n2_ := Aside0.mk (blk_below (g := gb517) (o := .cells #[.bool a1_0, .int .i64 a1_1, .bool a1_2, .int .i64 a1_3, .slice A1_4 l1_4.length c1_4] 24 (0, 0)) (by (with_reducible repeat (first | refine blk_drewN ?_ _ | refine blk_drew ?_ | refine blk_alloc ?_ _)); exact BK517.out) hb); have n3_ := Aside0.mk (below_step (by repeat (first | (with_reducible first | exact HB.out | apply below_alloc | apply pw_below_drewN | apply below_drew1 | refine below_set ?_ GE516.out | refine below_set ?_ GE517.out) | exact HB.out)) hb); clear BK516; clear BK517; clear HB; have HO525 := n0_; have BK516 := n1_; have BK517 := n2_; have HB := n3_; clear n0_ n1_ n2_ n3_; (try clear hb); (try clear hb2); (try clear hk); (try clear hi); (try clear ho0); have hcz47_0 : w46.cell? ⟨gb517, 0, none⟩ = some (.bool a1_0) := (blk_cell BK517.out 0).trans rfl; have hcz47_1 : w46.cell? ⟨gb517, 1, none⟩ = some (.int .i64 a1_1) := (blk_cell BK517.out 1).trans rfl; have hcz47_2 : w46.cell? ⟨gb517, 2, none⟩ = some (.bool a1_2) := (blk_cell BK517.out 2).trans rfl; have hcz47_3 : w46.cell? ⟨gb517, 3, none⟩ = some (.int .i64 a1_3) := (blk_cell BK517.out 3).trans rfl; have hcz47_4 : w46.cell? ⟨gb517, 4, none⟩ = some (.slice A1_4 l1_4.length c1_4) := (blk_cell BK517.out 4).trans rfl; have hfz47_0 := blk_frozen BK517.out 0; have hfz47_1 := blk_frozen BK517.out 1; have hfz47_2 := blk_frozen BK517.out 2; have hfz47_3 := blk_frozen BK517.out 3; have hfz47_4 := blk_frozen BK517.out 4) | (go_at_call 19; (with_reducible refine (frame_Rank.calls a1_0 a1_1 a1_2 a1_3 _ _ l1_4 t526 _ ?side1 ?side2 A42.out).mono ?_); (case side1 => repeat (first | exact (Kd.C_below HR1_4.out HB.out) | (with_reducible refine Kd.C_alloc ?_ _) | (with_reducible refine Kd.C_drewN ?_ _) | (with_reducible refine Kd.C_drew ?_))); (case side2 => exact HC1_4.out); rintro e w48 ⟨v527, rfl, ho0, hb⟩; have n0_ := Aside0.mk (Kd.R_elder' (by (with_reducible repeat (first | apply Kd.R_alloc | apply Kd.R_drewN | apply Kd.R_drew)); exact HO525.out) (Kd.R_base ho0) hb); have n1_ := Aside0.mk (Kd.R_lower (Kd.R_new' ho0 (Kd.R_lt (by (with_reducible repeat (first | apply Kd.R_alloc | apply Kd.R_drewN | apply Kd.R_drew)); exact HO525.out))) (below_size (by repeat (first | (with_reducible first | exact HB.out | apply below_alloc | apply pw_below_drewN | apply below_drew1 | refine below_set ?_ GE516.out | refine below_set ?_ GE517.out) | exact HB.out)))); have n2_ := Aside0.mk (blk_below (g := gb516) (o := .cells #[.bool a0_0, .int .i64 a0_1, .bool a0_2, .int .i64 a0_3, .slice A0_4 l0_4.length c0_4] 24 (0, 0)) (by (with_reducible repeat (first | refine blk_drewN ?_ _ | refine blk_drew ?_ | refine blk_alloc ?_ _)); exact BK516.out) hb); have n3_ := Aside0.mk (blk_below (g := gb517) (o := .cells #[.bool a1_0, .int .i64 a1_1, .bool a1_2, .int .i64 a1_3, .slice A1_4 l1_4.length c1_4] 24 (0, 0)) (by (with_reducible repeat (first | refine blk_drewN ?_ _ | refine blk_drew ?_ | refine blk_alloc ?_ _)); exact BK517.out) hb); have n4_ := Aside0.mk (below_step (by repeat (first | (with_reducible first | exact HB.out | apply below_alloc | apply pw_below_drewN | apply below_drew1 | refine below_set ?_ GE516.out | refine below_set ?_ GE517.out) | exact HB.out)) hb); clear HO525; clear BK516; clear BK517; clear HB; have HO525 := n0_; have HO528 := n1_; have BK516 := n2_; have BK517 := n3_; have HB := n4_; clear n0_ n1_ n2_ n3_ n4_; (try clear hb); (try clear hb2); (try clear hk); (try clear hi); (try clear ho0))))
        (try simp only [Act.put, List.setIfInBounds_toArray, List.set_cons_zero, List.set_cons_succ])
        go_cut [8] (fun v8 wc => ∃ (kq : Nat) (x8_42 : Int), v8 = .int .i64 x8_42 ∧ Aside0 (phaetonlaw04_FrameOrder.j2 kq t518 x8_42 a0_0 a0_1 a0_2 a0_3 l0_4 a1_0 a1_1 a1_2 a1_3 l1_4 = some r) ∧ Aside0 (kq ≤ kj3) ∧ Aside0 (wc.heap[gb516]? = some (.cells #[.bool a0_0, .int .i64 a0_1, .bool a0_2, .int .i64 a0_3, (.slice A0_4 l0_4.length c0_4)] 24 (0, 0))) ∧ Aside0 (wc.heap[gb517]? = some (.cells #[.bool a1_0, .int .i64 a1_1, .bool a1_2, .int .i64 a1_3, (.slice A1_4 l1_4.length c1_4)] 24 (0, 0))) ∧ Aside0 (Below w.heap.size w wc))
        case first =>
          have H := HC43.out
          clear HC43
          have H' := Aside0.mk H
          clear H
          go_wp2
          repeat (go_quiet (fail); try go_wp2)
          go_loopg [8, 9] kj3 (fun kq v8 v9 w' => ∃ (x8_2 : Int) (x9_2 : Int), v8 = .int .i64 x8_2 ∧ v9 = .int .i64 x9_2 ∧ Aside0 (phaetonlaw04_FrameOrder.l0 kq t518 t523 t526 x8_2 x9_2 a0_0 a0_1 a0_2 a0_3 l0_4 a1_0 a1_1 a1_2 a1_3 l1_4 = some r) ∧ Aside0 (kq ≤ kj3) ∧ Aside0 (Kd.R (Kd.int .i64) 3 w' w.heap.size (fun k_ => some k_ ≠ (v527 : Value).ownBlock) v524 t523) ∧ Aside0 (Kd.R (Kd.int .i64) 3 w' w.heap.size (fun k_ => some k_ ≠ (v524 : Value).ownBlock) v527 t526) ∧ Aside0 (w'.heap[gb516]? = some (.cells #[.bool a0_0, .int .i64 a0_1, .bool a0_2, .int .i64 a0_3, (.slice A0_4 l0_4.length c0_4)] 24 (0, 0))) ∧ Aside0 (w'.heap[gb517]? = some (.cells #[.bool a1_0, .int .i64 a1_1, .bool a1_2, .int .i64 a1_3, (.slice A1_4 l1_4.length c1_4)] 24 (0, 0))) ∧ Aside0 (Below w.heap.size w w'))
          case atStart => exact ⟨(0), (0), (by first | rfl | (simp; done) | (simp [*]; done)), (by first | rfl | (simp; done) | (simp [*]; done)), H', ⟨Nat.le_refl _⟩, ⟨by (with_reducible repeat (first | apply Kd.R_alloc | apply Kd.R_drewN | apply Kd.R_drew)); exact Kd.R_mono HO525.out (fun _ hk => hk.2)⟩, ⟨by (with_reducible repeat (first | apply Kd.R_alloc | apply Kd.R_drewN | apply Kd.R_drew)); exact Kd.R_mono HO528.out (fun _ hk => hk.2)⟩, ⟨by (with_reducible repeat (first | refine blk_drewN ?_ _ | refine blk_drew ?_ | refine blk_alloc ?_ _)); exact BK516.out⟩, ⟨by (with_reducible repeat (first | refine blk_drewN ?_ _ | refine blk_drew ?_ | refine blk_alloc ?_ _)); exact BK517.out⟩, ⟨by repeat (first | (with_reducible first | exact HB.out | apply below_alloc | apply pw_below_drewN | apply below_drew1 | refine below_set ?_ GE516.out | refine below_set ?_ GE517.out) | exact HB.out)⟩⟩
          case round =>
            clear H'
            try clear c1
            try clear c2
            try clear p2
            try clear c3
            try clear c4
            try clear c7
            try clear c9
            try clear c10
            try clear c14
            try clear c15
            try clear c21
            try clear c23
            try clear c32
            try clear c39
            try clear c40
            try clear c44
            try clear hcz11_0
            try clear hcz11_1
            try clear hcz11_2
            try clear hcz11_3
            try clear hcz11_4
            try clear hcz16_0
            try clear hcz16_1
            try clear hcz16_2
            try clear hcz16_3
            try clear hcz16_4
            try clear hcz18_0
            try clear hcz18_1
            try clear hcz18_2
            try clear hcz18_3
            try clear hcz18_4
            try clear hcz24_0
            try clear hcz24_1
            try clear hcz24_2
            try clear hcz24_3
            try clear hcz24_4
            try clear hcz26_0
            try clear hcz26_1
            try clear hcz26_2
            try clear hcz26_3
            try clear hcz26_4
            try clear hcz28_0
            try clear hcz28_1
            try clear hcz28_2
            try clear hcz28_3
            try clear hcz28_4
            try clear hcz30_0
            try clear hcz30_1
            try clear hcz30_2
            try clear hcz30_3
            try clear hcz30_4
            try clear hcz33_0
            try clear hcz33_1
            try clear hcz33_2
            try clear hcz33_3
            try clear hcz33_4
            try clear hcz35_0
            try clear hcz35_1
            try clear hcz35_2
            try clear hcz35_3
            try clear hcz35_4
            try clear hcz37_0
            try clear hcz37_1
            try clear hcz37_2
            try clear hcz37_3
            try clear hcz37_4
            try clear hcz45_0
            try clear hcz45_1
            try clear hcz45_2
            try clear hcz45_3
            try clear hcz45_4
            try clear hcz47_0
            try clear hcz47_1
            try clear hcz47_2
            try clear hcz47_3
            try clear hcz47_4
            try clear hfz11_0
            try clear hfz11_1
            try clear hfz11_2
            try clear hfz11_3
            try clear hfz11_4
            try clear hfz16_0
            try clear hfz16_1
            try clear hfz16_2
            try clear hfz16_3
            try clear hfz16_4
            try clear hfz18_0
            try clear hfz18_1
            try clear hfz18_2
            try clear hfz18_3
            try clear hfz18_4
            try clear hfz24_0
            try clear hfz24_1
            try clear hfz24_2
            try clear hfz24_3
            try clear hfz24_4
            try clear hfz26_0
            try clear hfz26_1
            try clear hfz26_2
            try clear hfz26_3
            try clear hfz26_4
            try clear hfz28_0
            try clear hfz28_1
            try clear hfz28_2
            try clear hfz28_3
            try clear hfz28_4
            try clear hfz30_0
            try clear hfz30_1
            try clear hfz30_2
            try clear hfz30_3
            try clear hfz30_4
            try clear hfz33_0
            try clear hfz33_1
            try clear hfz33_2
            try clear hfz33_3
            try clear hfz33_4
            try clear hfz35_0
            try clear hfz35_1
            try clear hfz35_2
            try clear hfz35_3
            try clear hfz35_4
            try clear hfz37_0
            try clear hfz37_1
            try clear hfz37_2
            try clear hfz37_3
            try clear hfz37_4
            try clear hfz45_0
            try clear hfz45_1
            try clear hfz45_2
            try clear hfz45_3
            try clear hfz45_4
            try clear hfz47_0
            try clear hfz47_1
            try clear hfz47_2
            try clear hfz47_3
            try clear hfz47_4
            try clear p2
            obtain ⟨x8_2, x9_2, rfl, rfl, HA, HK2, HO_6, HO_7, BK516, BK517, HB⟩ := hrel
            cases gk with
            | zero => exact absurd HA.out (by simp [phaetonlaw04_FrameOrder.l0])
            | succ k2 =>
              have H := HA.out
              clear HA
              simp only [phaetonlaw04_FrameOrder.l0] at H
              by_cases c49 : x9_2 < (t523.length : Int)
              · rw [if_pos c49] at H
                have c49b0 : decide (x9_2 < (t523.length : Int)) = true := decide_eq_true c49
                clear c49
                (first | rw [c49b0] | (simp only [i64_w, i32_w]; rw [c49b0]) | skip)
                by_cases c50 : x9_2 < (t526.length : Int)
                · rw [if_pos c50] at H
                  have c50b0 : decide (x9_2 < (t526.length : Int)) = true := decide_eq_true c50
                  clear c50
                  by_cases c51 : x8_2 = 0
                  · rw [if_pos c51] at H
                    have c51b0 : (x8_2 == 0) = true := beq_iff_eq.mpr c51
                    have c51b1 : (x8_2 != 0) = false := bne_eq_false_iff_eq.mpr c51
                    clear c51
                    by_cases c52 : 0 ≤ x9_2
                    · rw [if_pos c52] at H
                      have c52b0 : decide (0 ≤ x9_2) = true := decide_eq_true c52
                      clear c52
                      have H' := Aside0.mk H
                      clear H
                      obtain ⟨Ao53, co53, eo53⟩ := Kd.R_slice HO_6.out
                      subst eo53
                      obtain ⟨Ao54, co54, eo54⟩ := Kd.R_slice HO_7.out
                      subst eo54
                      have p529 : 0 ≤ (x9_2 : Int) := of_decide_eq_true (by first | (with_reducible assumption) | assumption)
                      have q529 : x9_2 < (t523.length : Int) := of_decide_eq_true (by first | (with_reducible assumption) | assumption)
                      obtain ⟨ad529, e529, hx529_0⟩ := Kd.at_int (Kd.R_reads' HO_6.out).2.2 x9_2 p529 q529
                      cases e529
                      replace p529 := eq_true p529
                      replace q529 := eq_true q529
                      have p530 : 0 ≤ (x9_2 : Int) := of_decide_eq_true (by first | (with_reducible assumption) | assumption)
                      have q530 : x9_2 < (t526.length : Int) := of_decide_eq_true (by first | (with_reducible assumption) | assumption)
                      obtain ⟨ad530, e530, hx530_0⟩ := Kd.at_int (Kd.R_reads' HO_7.out).2.2 x9_2 p530 q530
                      cases e530
                      replace p530 := eq_true p530
                      replace q530 := eq_true q530
                      go_wp2
                      repeat (go_quiet (fail); try go_wp2)
                      go_roundg k2
                      case measure => have := HJ3.out; have := HK2.out; omega
                      case rel => exact ⟨(wrap64 ((rd t523 x9_2) - (rd t526 x9_2))), (wrap64 (x9_2 + 1)), (by first | rfl | (simp; done) | (simp [*]; done)), (by first | rfl | (simp; done) | (simp [*]; done)), H', ⟨by have := HJ3.out; have := HK2.out; omega⟩, ⟨by (with_reducible repeat (first | apply Kd.R_alloc | apply Kd.R_drewN | apply Kd.R_drew)); exact HO_6.out⟩, ⟨by (with_reducible repeat (first | apply Kd.R_alloc | apply Kd.R_drewN | apply Kd.R_drew)); exact HO_7.out⟩, ⟨by (with_reducible repeat (first | refine blk_drewN ?_ _ | refine blk_drew ?_ | refine blk_alloc ?_ _)); exact BK516.out⟩, ⟨by (with_reducible repeat (first | refine blk_drewN ?_ _ | refine blk_drew ?_ | refine blk_alloc ?_ _)); exact BK517.out⟩, ⟨by repeat (first | (with_reducible first | exact HB.out | apply below_alloc | apply pw_below_drewN | apply below_drew1 | refine below_set ?_ GE516.out | refine below_set ?_ GE517.out) | exact HB.out)⟩⟩
                    · rw [if_neg c52] at H
                      exact absurd H (by simp)
                  · rw [if_neg c51] at H
                    have c51b0 : (x8_2 == 0) = false := beq_eq_false_iff_ne.mpr c51
                    have c51b1 : (x8_2 != 0) = true := bne_iff_ne.mpr c51
                    have H' := Aside0.mk H
                    clear H
                    obtain ⟨Ao55, co55, eo55⟩ := Kd.R_slice HO_6.out
                    subst eo55
                    obtain ⟨Ao56, co56, eo56⟩ := Kd.R_slice HO_7.out
                    subst eo56
                    go_wp2
                    repeat (go_quiet (fail); try go_wp2)
                    go_meet
                    case rel => exact ⟨_, (x8_2), (by first | rfl | (simp; done) | (simp [*]; done)), H', ⟨by have := HJ3.out; have := HK2.out; first | omega | exact Nat.le_refl _⟩, ⟨by (with_reducible repeat (first | refine blk_drewN ?_ _ | refine blk_drew ?_ | refine blk_alloc ?_ _)); exact BK516.out⟩, ⟨by (with_reducible repeat (first | refine blk_drewN ?_ _ | refine blk_drew ?_ | refine blk_alloc ?_ _)); exact BK517.out⟩, ⟨by repeat (first | (with_reducible first | exact HB.out | apply below_alloc | apply pw_below_drewN | apply below_drew1 | refine below_set ?_ GE516.out | refine below_set ?_ GE517.out) | exact HB.out)⟩⟩
                · rw [if_neg c50] at H
                  have c50b0 : decide (x9_2 < (t526.length : Int)) = false := decide_eq_false c50
                  clear c50
                  have H' := Aside0.mk H
                  clear H
                  obtain ⟨Ao57, co57, eo57⟩ := Kd.R_slice HO_6.out
                  subst eo57
                  obtain ⟨Ao58, co58, eo58⟩ := Kd.R_slice HO_7.out
                  subst eo58
                  go_wp2
                  repeat (go_quiet (fail); try go_wp2)
                  go_meet
                  case rel => exact ⟨_, (x8_2), (by first | rfl | (simp; done) | (simp [*]; done)), H', ⟨by have := HJ3.out; have := HK2.out; first | omega | exact Nat.le_refl _⟩, ⟨by (with_reducible repeat (first | refine blk_drewN ?_ _ | refine blk_drew ?_ | refine blk_alloc ?_ _)); exact BK516.out⟩, ⟨by (with_reducible repeat (first | refine blk_drewN ?_ _ | refine blk_drew ?_ | refine blk_alloc ?_ _)); exact BK517.out⟩, ⟨by repeat (first | (with_reducible first | exact HB.out | apply below_alloc | apply pw_below_drewN | apply below_drew1 | refine below_set ?_ GE516.out | refine below_set ?_ GE517.out) | exact HB.out)⟩⟩
              · rw [if_neg c49] at H
                have c49b0 : decide (x9_2 < (t523.length : Int)) = false := decide_eq_false c49
                clear c49
                (first | rw [c49b0] | (simp only [i64_w, i32_w]; rw [c49b0]) | skip)
                have H' := Aside0.mk H
                clear H
                obtain ⟨Ao59, co59, eo59⟩ := Kd.R_slice HO_6.out
                subst eo59
                go_wp2
                repeat (go_quiet (fail); try go_wp2)
                go_meet
                case rel => exact ⟨_, (x8_2), (by first | rfl | (simp; done) | (simp [*]; done)), H', ⟨by have := HJ3.out; have := HK2.out; first | omega | exact Nat.le_refl _⟩, ⟨by (with_reducible repeat (first | refine blk_drewN ?_ _ | refine blk_drew ?_ | refine blk_alloc ?_ _)); exact BK516.out⟩, ⟨by (with_reducible repeat (first | refine blk_drewN ?_ _ | refine blk_drew ?_ | refine blk_alloc ?_ _)); exact BK517.out⟩, ⟨by repeat (first | (with_reducible first | exact HB.out | apply below_alloc | apply pw_below_drewN | apply below_drew1 | refine below_set ?_ GE516.out | refine below_set ?_ GE517.out) | exact HB.out)⟩⟩
        case rest =>
          clear HC43
          try clear c1
          try clear c2
          try clear p2
          try clear c3
          try clear c4
          try clear c5
          try clear p5
          try clear q5
          try clear hx5
          try clear p6
          try clear c7
          try clear c9
          try clear c10
          try clear c14
          try clear c15
          try clear c21
          try clear c23
          try clear c32
          try clear c39
          try clear c40
          try clear c44
          try clear c49
          try clear c49b0
          try clear c50
          try clear c50b0
          try clear c51
          try clear c51b0
          try clear c51b1
          try clear c52
          try clear c52b0
          try clear p52
          try clear q52
          try clear hx52
          try clear p53
          try clear q53
          try clear hx53
          try clear hcz11_0
          try clear hcz11_1
          try clear hcz11_2
          try clear hcz11_3
          try clear hcz11_4
          try clear hcz16_0
          try clear hcz16_1
          try clear hcz16_2
          try clear hcz16_3
          try clear hcz16_4
          try clear hcz18_0
          try clear hcz18_1
          try clear hcz18_2
          try clear hcz18_3
          try clear hcz18_4
          try clear hcz24_0
          try clear hcz24_1
          try clear hcz24_2
          try clear hcz24_3
          try clear hcz24_4
          try clear hcz26_0
          try clear hcz26_1
          try clear hcz26_2
          try clear hcz26_3
          try clear hcz26_4
          try clear hcz28_0
          try clear hcz28_1
          try clear hcz28_2
          try clear hcz28_3
          try clear hcz28_4
          try clear hcz30_0
          try clear hcz30_1
          try clear hcz30_2
          try clear hcz30_3
          try clear hcz30_4
          try clear hcz33_0
          try clear hcz33_1
          try clear hcz33_2
          try clear hcz33_3
          try clear hcz33_4
          try clear hcz35_0
          try clear hcz35_1
          try clear hcz35_2
          try clear hcz35_3
          try clear hcz35_4
          try clear hcz37_0
          try clear hcz37_1
          try clear hcz37_2
          try clear hcz37_3
          try clear hcz37_4
          try clear hcz45_0
          try clear hcz45_1
          try clear hcz45_2
          try clear hcz45_3
          try clear hcz45_4
          try clear hcz47_0
          try clear hcz47_1
          try clear hcz47_2
          try clear hcz47_3
          try clear hcz47_4
          try clear hfz11_0
          try clear hfz11_1
          try clear hfz11_2
          try clear hfz11_3
          try clear hfz11_4
          try clear hfz16_0
          try clear hfz16_1
          try clear hfz16_2
          try clear hfz16_3
          try clear hfz16_4
          try clear hfz18_0
          try clear hfz18_1
          try clear hfz18_2
          try clear hfz18_3
          try clear hfz18_4
          try clear hfz24_0
          try clear hfz24_1
          try clear hfz24_2
          try clear hfz24_3
          try clear hfz24_4
          try clear hfz26_0
          try clear hfz26_1
          try clear hfz26_2
          try clear hfz26_3
          try clear hfz26_4
          try clear hfz28_0
          try clear hfz28_1
          try clear hfz28_2
          try clear hfz28_3
          try clear hfz28_4
          try clear hfz30_0
          try clear hfz30_1
          try clear hfz30_2
          try clear hfz30_3
          try clear hfz30_4
          try clear hfz33_0
          try clear hfz33_1
          try clear hfz33_2
          try clear hfz33_3
          try clear hfz33_4
          try clear hfz35_0
          try clear hfz35_1
          try clear hfz35_2
          try clear hfz35_3
          try clear hfz35_4
          try clear hfz37_0
          try clear hfz37_1
          try clear hfz37_2
          try clear hfz37_3
          try clear hfz37_4
          try clear hfz45_0
          try clear hfz45_1
          try clear hfz45_2
          try clear hfz45_3
          try clear hfz45_4
          try clear hfz47_0
          try clear hfz47_1
          try clear hfz47_2
          try clear hfz47_3
          try clear hfz47_4
          try clear hx529_0
          try clear hx530_0
          try clear p2
          try clear p529
          try clear p530
          try clear q529
          try clear q530
          obtain ⟨kq, x8_42, rfl, HA, HJ42, BK516, BK517, HB⟩ := hcut
          cases kq with
          | zero => exact absurd HA.out (by simp [phaetonlaw04_FrameOrder.j2])
          | succ kj42 =>
            have H := HA.out
            clear HA
            simp only [phaetonlaw04_FrameOrder.j2] at H
            have HC60 := Aside0.mk H
            clear H
            go_upto_region 11 with (fail)
            repeat (go_quiet (fail); go_upto_region 11 with (fail))
            go_cut [68] (fun v68 wc => ∃ (kq : Nat) (x68_59 : Bool), v68 = .bool x68_59 ∧ Aside0 (phaetonlaw04_FrameOrder.j3 kq t518 x8_42 x68_59 a0_0 a0_1 a0_2 a0_3 l0_4 a1_0 a1_1 a1_2 a1_3 l1_4 = some r) ∧ Aside0 (kq ≤ kj42) ∧ Aside0 (wc.heap[gb516]? = some (.cells #[.bool a0_0, .int .i64 a0_1, .bool a0_2, .int .i64 a0_3, (.slice A0_4 l0_4.length c0_4)] 24 (0, 0))) ∧ Aside0 (wc.heap[gb517]? = some (.cells #[.bool a1_0, .int .i64 a1_1, .bool a1_2, .int .i64 a1_3, (.slice A1_4 l1_4.length c1_4)] 24 (0, 0))) ∧ Aside0 (Below w.heap.size w wc))
            case first =>
              have H := HC60.out
              clear HC60
              by_cases c61 : (a0_0 == a1_0) = true
              · rw [if_pos c61] at H
                have c61b0 : (a0_0 == a1_0) = true := c61
                (try (have c61b1 : decide (a0_0 = a1_0) = true := by simpa using c61))
                (try (have c61b2 : (a0_0 == a1_0) = true := by simpa using c61))
                clear c61
                (first | rw [c61b0] | (simp only [i64_w, i32_w]; rw [c61b0]) | skip)
                have H' := Aside0.mk H
                clear H
                have hnb62 := NB516_517.out
                have hnc62 := NB517_516.out
                have hcz63_0 : wc.cell? ⟨gb516, 0, none⟩ = some (.bool a0_0) := (blk_cell BK516.out 0).trans rfl
                have hcz63_1 : wc.cell? ⟨gb516, 1, none⟩ = some (.int .i64 a0_1) := (blk_cell BK516.out 1).trans rfl
                have hcz63_2 : wc.cell? ⟨gb516, 2, none⟩ = some (.bool a0_2) := (blk_cell BK516.out 2).trans rfl
                have hcz63_3 : wc.cell? ⟨gb516, 3, none⟩ = some (.int .i64 a0_3) := (blk_cell BK516.out 3).trans rfl
                have hcz63_4 : wc.cell? ⟨gb516, 4, none⟩ = some (.slice A0_4 l0_4.length c0_4) := (blk_cell BK516.out 4).trans rfl
                have hfz63_0 := blk_frozen BK516.out 0
                have hfz63_1 := blk_frozen BK516.out 1
                have hfz63_2 := blk_frozen BK516.out 2
                have hfz63_3 := blk_frozen BK516.out 3
                have hfz63_4 := blk_frozen BK516.out 4
                have hcz64_0 : wc.cell? ⟨gb517, 0, none⟩ = some (.bool a1_0) := (blk_cell BK517.out 0).trans rfl
                have hcz64_1 : wc.cell? ⟨gb517, 1, none⟩ = some (.int .i64 a1_1) := (blk_cell BK517.out 1).trans rfl
                have hcz64_2 : wc.cell? ⟨gb517, 2, none⟩ = some (.bool a1_2) := (blk_cell BK517.out 2).trans rfl
                have hcz64_3 : wc.cell? ⟨gb517, 3, none⟩ = some (.int .i64 a1_3) := (blk_cell BK517.out 3).trans rfl
                have hcz64_4 : wc.cell? ⟨gb517, 4, none⟩ = some (.slice A1_4 l1_4.length c1_4) := (blk_cell BK517.out 4).trans rfl
                have hfz64_0 := blk_frozen BK517.out 0
                have hfz64_1 := blk_frozen BK517.out 1
                have hfz64_2 := blk_frozen BK517.out 2
                have hfz64_3 := blk_frozen BK517.out 3
                have hfz64_4 := blk_frozen BK517.out 4
                go_wp2
                repeat (go_quiet (fail); try go_wp2)
                go_meet
                case rel => exact ⟨_, ((a0_1 != a1_1)), (by first | rfl | (simp; done) | (simp [*]; done)), H', ⟨by have := HJ3.out; have := HJ42.out; first | omega | exact Nat.le_refl _⟩, ⟨by (with_reducible repeat (first | refine blk_drewN ?_ _ | refine blk_drew ?_ | refine blk_alloc ?_ _)); exact BK516.out⟩, ⟨by (with_reducible repeat (first | refine blk_drewN ?_ _ | refine blk_drew ?_ | refine blk_alloc ?_ _)); exact BK517.out⟩, ⟨by repeat (first | (with_reducible first | exact HB.out | apply below_alloc | apply pw_below_drewN | apply below_drew1 | refine below_set ?_ GE516.out | refine below_set ?_ GE517.out) | exact HB.out)⟩⟩
              · rw [if_neg c61] at H
                have c61b0 : (a0_0 == a1_0) = false := by simpa using c61
                (try (have c61b1 : decide (a0_0 = a1_0) = false := by simpa using c61))
                (try (have c61b2 : (a0_0 == a1_0) = false := by simpa using c61))
                (try (have c61b3 : ¬ (a0_0 = a1_0) := by simpa using c61))
                clear c61
                (first | rw [c61b0] | (simp only [i64_w, i32_w]; rw [c61b0]) | skip)
                have H' := Aside0.mk H
                clear H
                have hnb65 := NB516_517.out
                have hnc65 := NB517_516.out
                have hcz66_0 : wc.cell? ⟨gb516, 0, none⟩ = some (.bool a0_0) := (blk_cell BK516.out 0).trans rfl
                have hcz66_1 : wc.cell? ⟨gb516, 1, none⟩ = some (.int .i64 a0_1) := (blk_cell BK516.out 1).trans rfl
                have hcz66_2 : wc.cell? ⟨gb516, 2, none⟩ = some (.bool a0_2) := (blk_cell BK516.out 2).trans rfl
                have hcz66_3 : wc.cell? ⟨gb516, 3, none⟩ = some (.int .i64 a0_3) := (blk_cell BK516.out 3).trans rfl
                have hcz66_4 : wc.cell? ⟨gb516, 4, none⟩ = some (.slice A0_4 l0_4.length c0_4) := (blk_cell BK516.out 4).trans rfl
                have hfz66_0 := blk_frozen BK516.out 0
                have hfz66_1 := blk_frozen BK516.out 1
                have hfz66_2 := blk_frozen BK516.out 2
                have hfz66_3 := blk_frozen BK516.out 3
                have hfz66_4 := blk_frozen BK516.out 4
                have hcz67_0 : wc.cell? ⟨gb517, 0, none⟩ = some (.bool a1_0) := (blk_cell BK517.out 0).trans rfl
                have hcz67_1 : wc.cell? ⟨gb517, 1, none⟩ = some (.int .i64 a1_1) := (blk_cell BK517.out 1).trans rfl
                have hcz67_2 : wc.cell? ⟨gb517, 2, none⟩ = some (.bool a1_2) := (blk_cell BK517.out 2).trans rfl
                have hcz67_3 : wc.cell? ⟨gb517, 3, none⟩ = some (.int .i64 a1_3) := (blk_cell BK517.out 3).trans rfl
                have hcz67_4 : wc.cell? ⟨gb517, 4, none⟩ = some (.slice A1_4 l1_4.length c1_4) := (blk_cell BK517.out 4).trans rfl
                have hfz67_0 := blk_frozen BK517.out 0
                have hfz67_1 := blk_frozen BK517.out 1
                have hfz67_2 := blk_frozen BK517.out 2
                have hfz67_3 := blk_frozen BK517.out 3
                have hfz67_4 := blk_frozen BK517.out 4
                go_wp2
                repeat (go_quiet (fail); try go_wp2)
                go_meet
                case rel => exact ⟨_, (false), (by first | rfl | (simp; done) | (simp [*]; done)), H', ⟨by have := HJ3.out; have := HJ42.out; first | omega | exact Nat.le_refl _⟩, ⟨by (with_reducible repeat (first | refine blk_drewN ?_ _ | refine blk_drew ?_ | refine blk_alloc ?_ _)); exact BK516.out⟩, ⟨by (with_reducible repeat (first | refine blk_drewN ?_ _ | refine blk_drew ?_ | refine blk_alloc ?_ _)); exact BK517.out⟩, ⟨by repeat (first | (with_reducible first | exact HB.out | apply below_alloc | apply pw_below_drewN | apply below_drew1 | refine below_set ?_ GE516.out | refine below_set ?_ GE517.out) | exact HB.out)⟩⟩
            case rest =>
              clear HC60
              try clear c1
              try clear c2
              try clear p2
              try clear c3
              try clear c4
              try clear c5
              try clear p5
              try clear q5
              try clear hx5
              try clear c6
              try clear p6
              try clear c7
              try clear c9
              try clear c10
              try clear c14
              try clear c15
              try clear c21
              try clear c23
              try clear c32
              try clear c39
              try clear c40
              try clear c44
              try clear c49
              try clear c49b0
              try clear c50
              try clear c50b0
              try clear c51
              try clear c51b0
              try clear c51b1
              try clear c52
              try clear c52b0
              try clear p52
              try clear q52
              try clear hx52
              try clear p53
              try clear q53
              try clear hx53
              try clear c61
              try clear c61b0
              try clear c61b1
              try clear c61b2
              try clear c62
              try clear p64
              try clear c65
              try clear hcz11_0
              try clear hcz11_1
              try clear hcz11_2
              try clear hcz11_3
              try clear hcz11_4
              try clear hcz16_0
              try clear hcz16_1
              try clear hcz16_2
              try clear hcz16_3
              try clear hcz16_4
              try clear hcz18_0
              try clear hcz18_1
              try clear hcz18_2
              try clear hcz18_3
              try clear hcz18_4
              try clear hcz24_0
              try clear hcz24_1
              try clear hcz24_2
              try clear hcz24_3
              try clear hcz24_4
              try clear hcz26_0
              try clear hcz26_1
              try clear hcz26_2
              try clear hcz26_3
              try clear hcz26_4
              try clear hcz28_0
              try clear hcz28_1
              try clear hcz28_2
              try clear hcz28_3
              try clear hcz28_4
              try clear hcz30_0
              try clear hcz30_1
              try clear hcz30_2
              try clear hcz30_3
              try clear hcz30_4
              try clear hcz33_0
              try clear hcz33_1
              try clear hcz33_2
              try clear hcz33_3
              try clear hcz33_4
              try clear hcz35_0
              try clear hcz35_1
              try clear hcz35_2
              try clear hcz35_3
              try clear hcz35_4
              try clear hcz37_0
              try clear hcz37_1
              try clear hcz37_2
              try clear hcz37_3
              try clear hcz37_4
              try clear hcz45_0
              try clear hcz45_1
              try clear hcz45_2
              try clear hcz45_3
              try clear hcz45_4
              try clear hcz47_0
              try clear hcz47_1
              try clear hcz47_2
              try clear hcz47_3
              try clear hcz47_4
              try clear hcz63_0
              try clear hcz63_1
              try clear hcz63_2
              try clear hcz63_3
              try clear hcz63_4
              try clear hcz64_0
              try clear hcz64_1
              try clear hcz64_2
              try clear hcz64_3
              try clear hcz64_4
              try clear hcz66_0
              try clear hcz66_1
              try clear hcz66_2
              try clear hcz66_3
              try clear hcz66_4
              try clear hcz67_0
              try clear hcz67_1
              try clear hcz67_2
              try clear hcz67_3
              try clear hcz67_4
              try clear hfz11_0
              try clear hfz11_1
              try clear hfz11_2
              try clear hfz11_3
              try clear hfz11_4
              try clear hfz16_0
              try clear hfz16_1
              try clear hfz16_2
              try clear hfz16_3
              try clear hfz16_4
              try clear hfz18_0
              try clear hfz18_1
              try clear hfz18_2
              try clear hfz18_3
              try clear hfz18_4
              try clear hfz24_0
              try clear hfz24_1
              try clear hfz24_2
              try clear hfz24_3
              try clear hfz24_4
              try clear hfz26_0
              try clear hfz26_1
              try clear hfz26_2
              try clear hfz26_3
              try clear hfz26_4
              try clear hfz28_0
              try clear hfz28_1
              try clear hfz28_2
              try clear hfz28_3
              try clear hfz28_4
              try clear hfz30_0
              try clear hfz30_1
              try clear hfz30_2
              try clear hfz30_3
              try clear hfz30_4
              try clear hfz33_0
              try clear hfz33_1
              try clear hfz33_2
              try clear hfz33_3
              try clear hfz33_4
              try clear hfz35_0
              try clear hfz35_1
              try clear hfz35_2
              try clear hfz35_3
              try clear hfz35_4
              try clear hfz37_0
              try clear hfz37_1
              try clear hfz37_2
              try clear hfz37_3
              try clear hfz37_4
              try clear hfz45_0
              try clear hfz45_1
              try clear hfz45_2
              try clear hfz45_3
              try clear hfz45_4
              try clear hfz47_0
              try clear hfz47_1
              try clear hfz47_2
              try clear hfz47_3
              try clear hfz47_4
              try clear hfz63_0
              try clear hfz63_1
              try clear hfz63_2
              try clear hfz63_3
              try clear hfz63_4
              try clear hfz64_0
              try clear hfz64_1
              try clear hfz64_2
              try clear hfz64_3
              try clear hfz64_4
              try clear hfz66_0
              try clear hfz66_1
              try clear hfz66_2
              try clear hfz66_3
              try clear hfz66_4
              try clear hfz67_0
              try clear hfz67_1
              try clear hfz67_2
              try clear hfz67_3
              try clear hfz67_4
              try clear hx529_0
              try clear hx530_0
              try clear p2
              try clear p5
              try clear p52
              try clear p529
              try clear p53
              try clear p530
              try clear p6
              try clear q5
              try clear q52
              try clear q529
              try clear q53
              try clear q530
              obtain ⟨kq, x68_59, rfl, HA, HJ59, BK516, BK517, HB⟩ := hcut
              cases kq with
              | zero => exact absurd HA.out (by simp [phaetonlaw04_FrameOrder.j3])
              | succ kj59 =>
                have H := HA.out
                clear HA
                simp only [phaetonlaw04_FrameOrder.j3] at H
                by_cases c68 : x68_59 = true
                · subst c68
                  have H1 : (if t518 = true then (if ((decide (x8_42 < 0)) == (decide (a0_1 < a1_1))) = true then (if x8_42 = 0 then (none) else (some true)) else (none)) else (none)) = some r := by rw [if_pos rfl] at H; exact H
                  clear H
                  have H := H1
                  clear H1
                  by_cases c69 : t518 = true
                  · subst c69
                    have H1 : (if ((decide (x8_42 < 0)) == (decide (a0_1 < a1_1))) = true then (if x8_42 = 0 then (none) else (some true)) else (none)) = some r := by rw [if_pos rfl] at H; exact H
                    clear H
                    have H := H1
                    clear H1
                    by_cases c70 : ((decide (x8_42 < 0)) == (decide (a0_1 < a1_1))) = true
                    · rw [if_pos c70] at H
                      have c70b0 : ((decide (x8_42 < 0)) == (decide (a0_1 < a1_1))) = true := c70
                      (try (have c70b1 : decide ((decide (x8_42 < 0)) = (decide (a0_1 < a1_1))) = true := by simpa using c70))
                      (try (have c70b2 : ((decide (x8_42 < 0)) == (decide (a0_1 < a1_1))) = true := by simpa using c70))
                      clear c70
                      by_cases c71 : x8_42 = 0
                      · rw [if_pos c71] at H
                        exact absurd H (by simp)
                      · rw [if_neg c71] at H
                        have c71b0 : (x8_42 == 0) = false := beq_eq_false_iff_ne.mpr c71
                        have c71b1 : (x8_42 != 0) = true := bne_iff_ne.mpr c71
                        obtain rfl := Option.some.inj H
                        have hnb72 := NB516_517.out
                        have hnc72 := NB517_516.out
                        have hcz73_0 : wc.cell? ⟨gb516, 0, none⟩ = some (.bool a0_0) := (blk_cell BK516.out 0).trans rfl
                        have hcz73_1 : wc.cell? ⟨gb516, 1, none⟩ = some (.int .i64 a0_1) := (blk_cell BK516.out 1).trans rfl
                        have hcz73_2 : wc.cell? ⟨gb516, 2, none⟩ = some (.bool a0_2) := (blk_cell BK516.out 2).trans rfl
                        have hcz73_3 : wc.cell? ⟨gb516, 3, none⟩ = some (.int .i64 a0_3) := (blk_cell BK516.out 3).trans rfl
                        have hcz73_4 : wc.cell? ⟨gb516, 4, none⟩ = some (.slice A0_4 l0_4.length c0_4) := (blk_cell BK516.out 4).trans rfl
                        have hfz73_0 := blk_frozen BK516.out 0
                        have hfz73_1 := blk_frozen BK516.out 1
                        have hfz73_2 := blk_frozen BK516.out 2
                        have hfz73_3 := blk_frozen BK516.out 3
                        have hfz73_4 := blk_frozen BK516.out 4
                        have hcz74_0 : wc.cell? ⟨gb517, 0, none⟩ = some (.bool a1_0) := (blk_cell BK517.out 0).trans rfl
                        have hcz74_1 : wc.cell? ⟨gb517, 1, none⟩ = some (.int .i64 a1_1) := (blk_cell BK517.out 1).trans rfl
                        have hcz74_2 : wc.cell? ⟨gb517, 2, none⟩ = some (.bool a1_2) := (blk_cell BK517.out 2).trans rfl
                        have hcz74_3 : wc.cell? ⟨gb517, 3, none⟩ = some (.int .i64 a1_3) := (blk_cell BK517.out 3).trans rfl
                        have hcz74_4 : wc.cell? ⟨gb517, 4, none⟩ = some (.slice A1_4 l1_4.length c1_4) := (blk_cell BK517.out 4).trans rfl
                        have hfz74_0 := blk_frozen BK517.out 0
                        have hfz74_1 := blk_frozen BK517.out 1
                        have hfz74_2 := blk_frozen BK517.out 2
                        have hfz74_3 := blk_frozen BK517.out 3
                        have hfz74_4 := blk_frozen BK517.out 4
                        go_wp2
                        repeat (go_quiet (fail); try go_wp2)
                        go_ret
                        exact ⟨by first | rfl | (simp [errW_none, errW_some] <;> rfl) | (simp [*, errW_none, errW_some] <;> rfl), by repeat (first | (with_reducible first | exact HB.out | apply below_alloc | apply pw_below_drewN | apply below_drew1 | refine below_set ?_ GE516.out | refine below_set ?_ GE517.out) | exact HB.out)⟩
                    · rw [if_neg c70] at H
                      exact absurd H (by simp)
                  · replace c69 := Bool.eq_false_iff.mpr c69
                    subst c69
                    have H1 : (none) = some r := by rw [if_neg (show ¬ (false = true) by decide)] at H; exact H
                    clear H
                    have H := H1
                    clear H1
                    exact absurd H (by simp)
                · replace c68 := Bool.eq_false_iff.mpr c68
                  subst c68
                  have H1 : (if (a0_0 == a1_0) = true then (if t518 = true then (if a0_2 = true then (if ((decide (x8_42 < 0)) == false) = true then (some true) else (none)) else (if ((decide (x8_42 < 0)) == a1_2) = true then (some true) else (none))) else (none)) else (if a0_0 = true then (if t518 = true then (if x8_42 = 0 then (none) else (some true)) else (none)) else (if a1_0 = true then (if a0_1 = (a1_1 / 262144) then (if t518 = true then (if x8_42 < 0 then (some true) else (none)) else (none)) else (if t518 = true then (if x8_42 = 0 then (none) else (some true)) else (none))) else (if t518 = true then (if x8_42 = 0 then (none) else (some true)) else (none))))) = some r := by rw [if_neg (show ¬ (false = true) by decide)] at H; exact H
                  clear H
                  have H := H1
                  clear H1
                  by_cases c75 : (a0_0 == a1_0) = true
                  · rw [if_pos c75] at H
                    have c75b0 : (a0_0 == a1_0) = true := c75
                    (try (have c75b1 : decide (a0_0 = a1_0) = true := by simpa using c75))
                    (try (have c75b2 : (a0_0 == a1_0) = true := by simpa using c75))
                    clear c75
                    by_cases c76 : t518 = true
                    · subst c76
                      have H1 : (if a0_2 = true then (if ((decide (x8_42 < 0)) == false) = true then (some true) else (none)) else (if ((decide (x8_42 < 0)) == a1_2) = true then (some true) else (none))) = some r := by rw [if_pos rfl] at H; exact H
                      clear H
                      have H := H1
                      clear H1
                      by_cases c77 : a0_2 = true
                      · subst c77
                        have H1 : (if ((decide (x8_42 < 0)) == false) = true then (some true) else (none)) = some r := by rw [if_pos rfl] at H; exact H
                        clear H
                        have H := H1
                        clear H1
                        by_cases c78 : ((decide (x8_42 < 0)) == false) = true
                        · rw [if_pos c78] at H
                          have c78b0 : ((decide (x8_42 < 0)) == false) = true := c78
                          (try (have c78b1 : decide ((decide (x8_42 < 0)) = false) = true := by simpa using c78))
                          (try (have c78b2 : ((decide (x8_42 < 0)) == false) = true := by simpa using c78))
                          clear c78
                          obtain rfl := Option.some.inj H
                          have hnb79 := NB516_517.out
                          have hnc79 := NB517_516.out
                          have hcz80_0 : wc.cell? ⟨gb516, 0, none⟩ = some (.bool a0_0) := (blk_cell BK516.out 0).trans rfl
                          have hcz80_1 : wc.cell? ⟨gb516, 1, none⟩ = some (.int .i64 a0_1) := (blk_cell BK516.out 1).trans rfl
                          have hcz80_2 : wc.cell? ⟨gb516, 2, none⟩ = some (.bool true) := (blk_cell BK516.out 2).trans rfl
                          have hcz80_3 : wc.cell? ⟨gb516, 3, none⟩ = some (.int .i64 a0_3) := (blk_cell BK516.out 3).trans rfl
                          have hcz80_4 : wc.cell? ⟨gb516, 4, none⟩ = some (.slice A0_4 l0_4.length c0_4) := (blk_cell BK516.out 4).trans rfl
                          have hfz80_0 := blk_frozen BK516.out 0
                          have hfz80_1 := blk_frozen BK516.out 1
                          have hfz80_2 := blk_frozen BK516.out 2
                          have hfz80_3 := blk_frozen BK516.out 3
                          have hfz80_4 := blk_frozen BK516.out 4
                          have hcz81_0 : wc.cell? ⟨gb517, 0, none⟩ = some (.bool a1_0) := (blk_cell BK517.out 0).trans rfl
                          have hcz81_1 : wc.cell? ⟨gb517, 1, none⟩ = some (.int .i64 a1_1) := (blk_cell BK517.out 1).trans rfl
                          have hcz81_2 : wc.cell? ⟨gb517, 2, none⟩ = some (.bool a1_2) := (blk_cell BK517.out 2).trans rfl
                          have hcz81_3 : wc.cell? ⟨gb517, 3, none⟩ = some (.int .i64 a1_3) := (blk_cell BK517.out 3).trans rfl
                          have hcz81_4 : wc.cell? ⟨gb517, 4, none⟩ = some (.slice A1_4 l1_4.length c1_4) := (blk_cell BK517.out 4).trans rfl
                          have hfz81_0 := blk_frozen BK517.out 0
                          have hfz81_1 := blk_frozen BK517.out 1
                          have hfz81_2 := blk_frozen BK517.out 2
                          have hfz81_3 := blk_frozen BK517.out 3
                          have hfz81_4 := blk_frozen BK517.out 4
                          go_wp2
                          repeat (go_quiet (fail); try go_wp2)
                          go_ret
                          exact ⟨by first | rfl | (simp [errW_none, errW_some] <;> rfl) | (simp [*, errW_none, errW_some] <;> rfl), by repeat (first | (with_reducible first | exact HB.out | apply below_alloc | apply pw_below_drewN | apply below_drew1 | refine below_set ?_ GE516.out | refine below_set ?_ GE517.out) | exact HB.out)⟩
                        · rw [if_neg c78] at H
                          exact absurd H (by simp)
                      · replace c77 := Bool.eq_false_iff.mpr c77
                        subst c77
                        have H1 : (if ((decide (x8_42 < 0)) == a1_2) = true then (some true) else (none)) = some r := by rw [if_neg (show ¬ (false = true) by decide)] at H; exact H
                        clear H
                        have H := H1
                        clear H1
                        by_cases c82 : ((decide (x8_42 < 0)) == a1_2) = true
                        · rw [if_pos c82] at H
                          have c82b0 : ((decide (x8_42 < 0)) == a1_2) = true := c82
                          (try (have c82b1 : decide ((decide (x8_42 < 0)) = a1_2) = true := by simpa using c82))
                          (try (have c82b2 : ((decide (x8_42 < 0)) == a1_2) = true := by simpa using c82))
                          clear c82
                          obtain rfl := Option.some.inj H
                          have hnb83 := NB516_517.out
                          have hnc83 := NB517_516.out
                          have hcz84_0 : wc.cell? ⟨gb516, 0, none⟩ = some (.bool a0_0) := (blk_cell BK516.out 0).trans rfl
                          have hcz84_1 : wc.cell? ⟨gb516, 1, none⟩ = some (.int .i64 a0_1) := (blk_cell BK516.out 1).trans rfl
                          have hcz84_2 : wc.cell? ⟨gb516, 2, none⟩ = some (.bool false) := (blk_cell BK516.out 2).trans rfl
                          have hcz84_3 : wc.cell? ⟨gb516, 3, none⟩ = some (.int .i64 a0_3) := (blk_cell BK516.out 3).trans rfl
                          have hcz84_4 : wc.cell? ⟨gb516, 4, none⟩ = some (.slice A0_4 l0_4.length c0_4) := (blk_cell BK516.out 4).trans rfl
                          have hfz84_0 := blk_frozen BK516.out 0
                          have hfz84_1 := blk_frozen BK516.out 1
                          have hfz84_2 := blk_frozen BK516.out 2
                          have hfz84_3 := blk_frozen BK516.out 3
                          have hfz84_4 := blk_frozen BK516.out 4
                          have hcz85_0 : wc.cell? ⟨gb517, 0, none⟩ = some (.bool a1_0) := (blk_cell BK517.out 0).trans rfl
                          have hcz85_1 : wc.cell? ⟨gb517, 1, none⟩ = some (.int .i64 a1_1) := (blk_cell BK517.out 1).trans rfl
                          have hcz85_2 : wc.cell? ⟨gb517, 2, none⟩ = some (.bool a1_2) := (blk_cell BK517.out 2).trans rfl
                          have hcz85_3 : wc.cell? ⟨gb517, 3, none⟩ = some (.int .i64 a1_3) := (blk_cell BK517.out 3).trans rfl
                          have hcz85_4 : wc.cell? ⟨gb517, 4, none⟩ = some (.slice A1_4 l1_4.length c1_4) := (blk_cell BK517.out 4).trans rfl
                          have hfz85_0 := blk_frozen BK517.out 0
                          have hfz85_1 := blk_frozen BK517.out 1
                          have hfz85_2 := blk_frozen BK517.out 2
                          have hfz85_3 := blk_frozen BK517.out 3
                          have hfz85_4 := blk_frozen BK517.out 4
                          go_wp2
                          repeat (go_quiet (fail); try go_wp2)
                          go_ret
                          exact ⟨by first | rfl | (simp [errW_none, errW_some] <;> rfl) | (simp [*, errW_none, errW_some] <;> rfl), by repeat (first | (with_reducible first | exact HB.out | apply below_alloc | apply pw_below_drewN | apply below_drew1 | refine below_set ?_ GE516.out | refine below_set ?_ GE517.out) | exact HB.out)⟩
                        · rw [if_neg c82] at H
                          exact absurd H (by simp)
                    · replace c76 := Bool.eq_false_iff.mpr c76
                      subst c76
                      have H1 : (none) = some r := by rw [if_neg (show ¬ (false = true) by decide)] at H; exact H
                      clear H
                      have H := H1
                      clear H1
                      exact absurd H (by simp)
                  · rw [if_neg c75] at H
                    have c75b0 : (a0_0 == a1_0) = false := by simpa using c75
                    (try (have c75b1 : decide (a0_0 = a1_0) = false := by simpa using c75))
                    (try (have c75b2 : (a0_0 == a1_0) = false := by simpa using c75))
                    (try (have c75b3 : ¬ (a0_0 = a1_0) := by simpa using c75))
                    clear c75
                    by_cases c86 : a0_0 = true
                    · subst c86
                      have H1 : (if t518 = true then (if x8_42 = 0 then (none) else (some true)) else (none)) = some r := by rw [if_pos rfl] at H; exact H
                      clear H
                      have H := H1
                      clear H1
                      by_cases c87 : t518 = true
                      · subst c87
                        have H1 : (if x8_42 = 0 then (none) else (some true)) = some r := by rw [if_pos rfl] at H; exact H
                        clear H
                        have H := H1
                        clear H1
                        by_cases c88 : x8_42 = 0
                        · rw [if_pos c88] at H
                          exact absurd H (by simp)
                        · rw [if_neg c88] at H
                          have c88b0 : (x8_42 == 0) = false := beq_eq_false_iff_ne.mpr c88
                          have c88b1 : (x8_42 != 0) = true := bne_iff_ne.mpr c88
                          obtain rfl := Option.some.inj H
                          have hnb89 := NB516_517.out
                          have hnc89 := NB517_516.out
                          have hcz90_0 : wc.cell? ⟨gb516, 0, none⟩ = some (.bool true) := (blk_cell BK516.out 0).trans rfl
                          have hcz90_1 : wc.cell? ⟨gb516, 1, none⟩ = some (.int .i64 a0_1) := (blk_cell BK516.out 1).trans rfl
                          have hcz90_2 : wc.cell? ⟨gb516, 2, none⟩ = some (.bool a0_2) := (blk_cell BK516.out 2).trans rfl
                          have hcz90_3 : wc.cell? ⟨gb516, 3, none⟩ = some (.int .i64 a0_3) := (blk_cell BK516.out 3).trans rfl
                          have hcz90_4 : wc.cell? ⟨gb516, 4, none⟩ = some (.slice A0_4 l0_4.length c0_4) := (blk_cell BK516.out 4).trans rfl
                          have hfz90_0 := blk_frozen BK516.out 0
                          have hfz90_1 := blk_frozen BK516.out 1
                          have hfz90_2 := blk_frozen BK516.out 2
                          have hfz90_3 := blk_frozen BK516.out 3
                          have hfz90_4 := blk_frozen BK516.out 4
                          have hcz91_0 : wc.cell? ⟨gb517, 0, none⟩ = some (.bool a1_0) := (blk_cell BK517.out 0).trans rfl
                          have hcz91_1 : wc.cell? ⟨gb517, 1, none⟩ = some (.int .i64 a1_1) := (blk_cell BK517.out 1).trans rfl
                          have hcz91_2 : wc.cell? ⟨gb517, 2, none⟩ = some (.bool a1_2) := (blk_cell BK517.out 2).trans rfl
                          have hcz91_3 : wc.cell? ⟨gb517, 3, none⟩ = some (.int .i64 a1_3) := (blk_cell BK517.out 3).trans rfl
                          have hcz91_4 : wc.cell? ⟨gb517, 4, none⟩ = some (.slice A1_4 l1_4.length c1_4) := (blk_cell BK517.out 4).trans rfl
                          have hfz91_0 := blk_frozen BK517.out 0
                          have hfz91_1 := blk_frozen BK517.out 1
                          have hfz91_2 := blk_frozen BK517.out 2
                          have hfz91_3 := blk_frozen BK517.out 3
                          have hfz91_4 := blk_frozen BK517.out 4
                          go_wp2
                          repeat (go_quiet (fail); try go_wp2)
                          go_ret
                          exact ⟨by first | rfl | (simp [errW_none, errW_some] <;> rfl) | (simp [*, errW_none, errW_some] <;> rfl), by repeat (first | (with_reducible first | exact HB.out | apply below_alloc | apply pw_below_drewN | apply below_drew1 | refine below_set ?_ GE516.out | refine below_set ?_ GE517.out) | exact HB.out)⟩
                      · replace c87 := Bool.eq_false_iff.mpr c87
                        subst c87
                        have H1 : (none) = some r := by rw [if_neg (show ¬ (false = true) by decide)] at H; exact H
                        clear H
                        have H := H1
                        clear H1
                        exact absurd H (by simp)
                    · replace c86 := Bool.eq_false_iff.mpr c86
                      subst c86
                      have H1 : (if a1_0 = true then (if a0_1 = (a1_1 / 262144) then (if t518 = true then (if x8_42 < 0 then (some true) else (none)) else (none)) else (if t518 = true then (if x8_42 = 0 then (none) else (some true)) else (none))) else (if t518 = true then (if x8_42 = 0 then (none) else (some true)) else (none))) = some r := by rw [if_neg (show ¬ (false = true) by decide)] at H; exact H
                      clear H
                      have H := H1
                      clear H1
                      by_cases c92 : a1_0 = true
                      · subst c92
                        have H1 : (if a0_1 = (a1_1 / 262144) then (if t518 = true then (if x8_42 < 0 then (some true) else (none)) else (none)) else (if t518 = true then (if x8_42 = 0 then (none) else (some true)) else (none))) = some r := by rw [if_pos rfl] at H; exact H
                        clear H
                        have H := H1
                        clear H1
                        by_cases c93 : a0_1 = (a1_1 / 262144)
                        · rw [if_pos c93] at H
                          have c93b0 : (a0_1 == (a1_1 / 262144)) = true := beq_iff_eq.mpr c93
                          have c93b1 : (a0_1 != (a1_1 / 262144)) = false := bne_eq_false_iff_eq.mpr c93
                          clear c93
                          by_cases c94 : t518 = true
                          · subst c94
                            have H1 : (if x8_42 < 0 then (some true) else (none)) = some r := by rw [if_pos rfl] at H; exact H
                            clear H
                            have H := H1
                            clear H1
                            by_cases c95 : x8_42 < 0
                            · rw [if_pos c95] at H
                              have c95b0 : decide (x8_42 < 0) = true := decide_eq_true c95
                              clear c95
                              obtain rfl := Option.some.inj H
                              have hnb96 := NB516_517.out
                              have hnc96 := NB517_516.out
                              have hcz97_0 : wc.cell? ⟨gb516, 0, none⟩ = some (.bool false) := (blk_cell BK516.out 0).trans rfl
                              have hcz97_1 : wc.cell? ⟨gb516, 1, none⟩ = some (.int .i64 a0_1) := (blk_cell BK516.out 1).trans rfl
                              have hcz97_2 : wc.cell? ⟨gb516, 2, none⟩ = some (.bool a0_2) := (blk_cell BK516.out 2).trans rfl
                              have hcz97_3 : wc.cell? ⟨gb516, 3, none⟩ = some (.int .i64 a0_3) := (blk_cell BK516.out 3).trans rfl
                              have hcz97_4 : wc.cell? ⟨gb516, 4, none⟩ = some (.slice A0_4 l0_4.length c0_4) := (blk_cell BK516.out 4).trans rfl
                              have hfz97_0 := blk_frozen BK516.out 0
                              have hfz97_1 := blk_frozen BK516.out 1
                              have hfz97_2 := blk_frozen BK516.out 2
                              have hfz97_3 := blk_frozen BK516.out 3
                              have hfz97_4 := blk_frozen BK516.out 4
                              have hcz98_0 : wc.cell? ⟨gb517, 0, none⟩ = some (.bool true) := (blk_cell BK517.out 0).trans rfl
                              have hcz98_1 : wc.cell? ⟨gb517, 1, none⟩ = some (.int .i64 a1_1) := (blk_cell BK517.out 1).trans rfl
                              have hcz98_2 : wc.cell? ⟨gb517, 2, none⟩ = some (.bool a1_2) := (blk_cell BK517.out 2).trans rfl
                              have hcz98_3 : wc.cell? ⟨gb517, 3, none⟩ = some (.int .i64 a1_3) := (blk_cell BK517.out 3).trans rfl
                              have hcz98_4 : wc.cell? ⟨gb517, 4, none⟩ = some (.slice A1_4 l1_4.length c1_4) := (blk_cell BK517.out 4).trans rfl
                              have hfz98_0 := blk_frozen BK517.out 0
                              have hfz98_1 := blk_frozen BK517.out 1
                              have hfz98_2 := blk_frozen BK517.out 2
                              have hfz98_3 := blk_frozen BK517.out 3
                              have hfz98_4 := blk_frozen BK517.out 4
                              go_wp2
                              repeat (go_quiet (fail); try go_wp2)
                              go_ret
                              exact ⟨by first | rfl | (simp [errW_none, errW_some] <;> rfl) | (simp [*, errW_none, errW_some] <;> rfl), by repeat (first | (with_reducible first | exact HB.out | apply below_alloc | apply pw_below_drewN | apply below_drew1 | refine below_set ?_ GE516.out | refine below_set ?_ GE517.out) | exact HB.out)⟩
                            · rw [if_neg c95] at H
                              exact absurd H (by simp)
                          · replace c94 := Bool.eq_false_iff.mpr c94
                            subst c94
                            have H1 : (none) = some r := by rw [if_neg (show ¬ (false = true) by decide)] at H; exact H
                            clear H
                            have H := H1
                            clear H1
                            exact absurd H (by simp)
                        · rw [if_neg c93] at H
                          have c93b0 : (a0_1 == (a1_1 / 262144)) = false := beq_eq_false_iff_ne.mpr c93
                          have c93b1 : (a0_1 != (a1_1 / 262144)) = true := bne_iff_ne.mpr c93
                          by_cases c99 : t518 = true
                          · subst c99
                            have H1 : (if x8_42 = 0 then (none) else (some true)) = some r := by rw [if_pos rfl] at H; exact H
                            clear H
                            have H := H1
                            clear H1
                            by_cases c100 : x8_42 = 0
                            · rw [if_pos c100] at H
                              exact absurd H (by simp)
                            · rw [if_neg c100] at H
                              have c100b0 : (x8_42 == 0) = false := beq_eq_false_iff_ne.mpr c100
                              have c100b1 : (x8_42 != 0) = true := bne_iff_ne.mpr c100
                              obtain rfl := Option.some.inj H
                              have hnb101 := NB516_517.out
                              have hnc101 := NB517_516.out
                              have hcz102_0 : wc.cell? ⟨gb516, 0, none⟩ = some (.bool false) := (blk_cell BK516.out 0).trans rfl
                              have hcz102_1 : wc.cell? ⟨gb516, 1, none⟩ = some (.int .i64 a0_1) := (blk_cell BK516.out 1).trans rfl
                              have hcz102_2 : wc.cell? ⟨gb516, 2, none⟩ = some (.bool a0_2) := (blk_cell BK516.out 2).trans rfl
                              have hcz102_3 : wc.cell? ⟨gb516, 3, none⟩ = some (.int .i64 a0_3) := (blk_cell BK516.out 3).trans rfl
                              have hcz102_4 : wc.cell? ⟨gb516, 4, none⟩ = some (.slice A0_4 l0_4.length c0_4) := (blk_cell BK516.out 4).trans rfl
                              have hfz102_0 := blk_frozen BK516.out 0
                              have hfz102_1 := blk_frozen BK516.out 1
                              have hfz102_2 := blk_frozen BK516.out 2
                              have hfz102_3 := blk_frozen BK516.out 3
                              have hfz102_4 := blk_frozen BK516.out 4
                              have hcz103_0 : wc.cell? ⟨gb517, 0, none⟩ = some (.bool true) := (blk_cell BK517.out 0).trans rfl
                              have hcz103_1 : wc.cell? ⟨gb517, 1, none⟩ = some (.int .i64 a1_1) := (blk_cell BK517.out 1).trans rfl
                              have hcz103_2 : wc.cell? ⟨gb517, 2, none⟩ = some (.bool a1_2) := (blk_cell BK517.out 2).trans rfl
                              have hcz103_3 : wc.cell? ⟨gb517, 3, none⟩ = some (.int .i64 a1_3) := (blk_cell BK517.out 3).trans rfl
                              have hcz103_4 : wc.cell? ⟨gb517, 4, none⟩ = some (.slice A1_4 l1_4.length c1_4) := (blk_cell BK517.out 4).trans rfl
                              have hfz103_0 := blk_frozen BK517.out 0
                              have hfz103_1 := blk_frozen BK517.out 1
                              have hfz103_2 := blk_frozen BK517.out 2
                              have hfz103_3 := blk_frozen BK517.out 3
                              have hfz103_4 := blk_frozen BK517.out 4
                              go_wp2
                              repeat (go_quiet (fail); try go_wp2)
                              go_ret
                              exact ⟨by first | rfl | (simp [errW_none, errW_some] <;> rfl) | (simp [*, errW_none, errW_some] <;> rfl), by repeat (first | (with_reducible first | exact HB.out | apply below_alloc | apply pw_below_drewN | apply below_drew1 | refine below_set ?_ GE516.out | refine below_set ?_ GE517.out) | exact HB.out)⟩
                          · replace c99 := Bool.eq_false_iff.mpr c99
                            subst c99
                            have H1 : (none) = some r := by rw [if_neg (show ¬ (false = true) by decide)] at H; exact H
                            clear H
                            have H := H1
                            clear H1
                            exact absurd H (by simp)
                      · replace c92 := Bool.eq_false_iff.mpr c92
                        subst c92
                        have H1 : (if t518 = true then (if x8_42 = 0 then (none) else (some true)) else (none)) = some r := by rw [if_neg (show ¬ (false = true) by decide)] at H; exact H
                        clear H
                        have H := H1
                        clear H1
                        by_cases c104 : t518 = true
                        · subst c104
                          have H1 : (if x8_42 = 0 then (none) else (some true)) = some r := by rw [if_pos rfl] at H; exact H
                          clear H
                          have H := H1
                          clear H1
                          by_cases c105 : x8_42 = 0
                          · rw [if_pos c105] at H
                            exact absurd H (by simp)
                          · rw [if_neg c105] at H
                            have c105b0 : (x8_42 == 0) = false := beq_eq_false_iff_ne.mpr c105
                            have c105b1 : (x8_42 != 0) = true := bne_iff_ne.mpr c105
                            obtain rfl := Option.some.inj H
                            have hnb106 := NB516_517.out
                            have hnc106 := NB517_516.out
                            exact absurd rfl c75b3
                        · replace c104 := Bool.eq_false_iff.mpr c104
                          subst c104
                          have H1 : (none) = some r := by rw [if_neg (show ¬ (false = true) by decide)] at H; exact H
                          clear H
                          have H := H1
                          clear H1
                          exact absurd H (by simp)

/-- THE ONE PURE STATEMENT of phaetonlaw04_FrameOrder. -/
def phaetonlaw04_FrameOrder.Pure : Prop := ∀ (a0_0 : Bool) (a0_1 : Int) (a0_2 : Bool) (a0_3 : Int) (l0_4 : List Int) (a1_0 : Bool) (a1_1 : Int) (a1_2 : Bool) (a1_3 : Int) (l1_4 : List Int), (Lit.int .i64 a0_1).wf = true → (Lit.int .i64 a0_3).wf = true → l0_4.length ≤ maxLen → (∀ x ∈ l0_4, (fun (x : Int) => (Lit.int .u8 x).wf = true) x) → (Lit.int .i64 a1_1).wf = true → (Lit.int .i64 a1_3).wf = true → l1_4.length ≤ maxLen → (∀ x ∈ l1_4, (fun (x : Int) => (Lit.int .u8 x).wf = true) x) → ∃ k, phaetonlaw04_FrameOrder.f k a0_0 a0_1 a0_2 a0_3 l0_4 a1_0 a1_1 a1_2 a1_3 l1_4 = some true
theorem phaetonlaw04_FrameOrder.walk (P : phaetonlaw04_FrameOrder.Pure) (a0_0 : Bool) (a0_1 : Int) (a0_2 : Bool) (a0_3 : Int) (A0_4 : Option Addr) (c0_4 : Nat) (l0_4 : List Int) (a1_0 : Bool) (a1_1 : Int) (a1_2 : Bool) (a1_3 : Int) (A1_4 : Option Addr) (c1_4 : Nat) (l1_4 : List Int) (w : World) (hw0_1 : (Lit.int .i64 a0_1).wf = true) (hw0_3 : (Lit.int .i64 a0_3).wf = true) (hw0_4 : ∀ x ∈ l0_4, (fun (x : Int) => (Lit.int .u8 x).wf = true) x) (hr0_4 : Kd.C (Kd.int .u8) w A0_4 l0_4.length l0_4) (hc0_4 : l0_4.length ≤ c0_4) (hw1_1 : (Lit.int .i64 a1_1).wf = true) (hw1_3 : (Lit.int .i64 a1_3).wf = true) (hw1_4 : ∀ x ∈ l1_4, (fun (x : Int) => (Lit.int .u8 x).wf = true) x) (hr1_4 : Kd.C (Kd.int .u8) w A1_4 l1_4.length l1_4) (hc1_4 : l1_4.length ≤ c1_4) :
    Calls Try.prog 7 #[.agg #[.bool a0_0, .int .i64 a0_1, .bool a0_2, .int .i64 a0_3, .slice A0_4 l0_4.length c0_4], .agg #[.bool a1_0, .int .i64 a1_1, .bool a1_2, .int .i64 a1_3, .slice A1_4 l1_4.length c1_4]] w fun e w' => e = .returned (.bool true) ∧ Below w.heap.size w w' := by
  obtain ⟨k, h⟩ := P a0_0 a0_1 a0_2 a0_3 l0_4 a1_0 a1_1 a1_2 a1_3 l1_4 hw0_1 hw0_3 (by have := hr0_4.2.1; unfold maxLen; omega) hw0_4 hw1_1 hw1_3 (by have := hr1_4.2.1; unfold maxLen; omega) hw1_4
  refine (phaetonlaw04_FrameOrder.calls k a0_0 a0_1 a0_2 a0_3 _ _ l0_4 a1_0 a1_1 a1_2 a1_3 _ _ l1_4 true w hr0_4 hc0_4 hr1_4 hc1_4 h).mono ?_
  rintro e w' ⟨rfl, hd⟩
  exact ⟨rfl, hd⟩

end Go.Proofs.Ytiphbgcmbbfpmaa.Px

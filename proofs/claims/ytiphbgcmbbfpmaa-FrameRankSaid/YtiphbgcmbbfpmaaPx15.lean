-- Written by myprint.py, a program of this session's, over the kit's print.py; not a text of print.sh's own.
import Derived.Test.YtiphbgcmbbfpmaaHandBox
import Derived.Test.YtiphbgcmbbfpmaaPx0
import Derived.Test.YtiphbgcmbbfpmaaPx1
import Derived.Test.YtiphbgcmbbfpmaaPx2
import Derived.Test.YtiphbgcmbbfpmaaPx6
import Derived.Test.YtiphbgcmbbfpmaaPx7
namespace Go.Proofs.Ytiphbgcmbbfpmaa.Px
open Go.RowKit Go.Proofs.YtiphbgcmbbfpmaaW.PrintWords Go.Proofs.YtiphbgcmbbfpmaaW.PrintLast Go.Proofs.YtiphbgcmbbfpmaaW.PrintMore
attribute [local go_sem] max2_int min2_int max_two min_two max_three min_three max_four min_four   -- for this text's walks alone
set_option linter.unusedVariables false
set_option linter.unusedSimpArgs false

/-! ### phaetonlaw04_FrameRank: function 6 -/
theorem framerank_cut (l : List Int) (b a : Int) (h : b ≤ (l.length : Int)) : ((l.take b.toNat).drop a.toNat).length = b.toNat - a.toNat := by
  rw [List.length_drop, List.length_take]
  omega
mutual
def phaetonlaw04_FrameRank.j0 : Nat → Bool → Bool → Bool → Int → Bool → Int → List Int → Bool → Int → Bool → Int → List Int → Option (Bool)
  | 0, _, _, _, _, _, _, _, _, _, _, _, _ => none
  | k + 1, x5, x27, x461000, x461001, x461002, x461003, x461004, x462000, x462001, x462002, x462003, x462004 => if x27 = true then (if x5 = true then (some true) else (none)) else ((frame_Rank.f x461000 x461001 x461002 x461003 x461004).bind fun t467 => ((frame_Rank.f x462000 x462001 x462002 x462003 x462004).bind fun t470 => ((frame_Head.f x461000 x461001 x461002 x461003 x461004).bind fun t473 => (if (t467.length : Int) = 13 then (if (((t467.length : Int) == 32) != x461000) = true then (phaetonlaw04_FrameRank.j1 k x5 t467 t470 true x461000 x461001 x461002 x461003 x461004 x462000 x462001 x462002 x462003 x462004) else (if (t473.length : Int) ≤ (t467.length : Int) then (phaetonlaw04_FrameRank.j1 k x5 t467 t470 true x461000 x461001 x461002 x461003 x461004 x462000 x462001 x462002 x462003 x462004) else (if 1 ≤ (wrap64 (1 + (t467.length : Int))) then (if (wrap64 (1 + (t467.length : Int))) ≤ (t473.length : Int) then ((phaetonref01_Same.f k ((t473.take ((wrap64 (1 + (t467.length : Int))) : Int).toNat).drop 1) t467).bind fun t480 => (phaetonlaw04_FrameRank.j1 k x5 t467 t470 (!t480) x461000 x461001 x461002 x461003 x461004 x462000 x462001 x462002 x462003 x462004)) else (none)) else (none)))) else (if (t467.length : Int) = 32 then (if (((t467.length : Int) == 32) != x461000) = true then (phaetonlaw04_FrameRank.j1 k x5 t467 t470 true x461000 x461001 x461002 x461003 x461004 x462000 x462001 x462002 x462003 x462004) else (if (t473.length : Int) ≤ (t467.length : Int) then (phaetonlaw04_FrameRank.j1 k x5 t467 t470 true x461000 x461001 x461002 x461003 x461004 x462000 x462001 x462002 x462003 x462004) else (if 1 ≤ (wrap64 (1 + (t467.length : Int))) then (if (wrap64 (1 + (t467.length : Int))) ≤ (t473.length : Int) then ((phaetonref01_Same.f k ((t473.take ((wrap64 (1 + (t467.length : Int))) : Int).toNat).drop 1) t467).bind fun t485 => (phaetonlaw04_FrameRank.j1 k x5 t467 t470 (!t485) x461000 x461001 x461002 x461003 x461004 x462000 x462001 x462002 x462003 x462004)) else (none)) else (none)))) else (phaetonlaw04_FrameRank.j1 k x5 t467 t470 true x461000 x461001 x461002 x461003 x461004 x462000 x462001 x462002 x462003 x462004))))))
def phaetonlaw04_FrameRank.j1 : Nat → Bool → List Int → List Int → Bool → Bool → Int → Bool → Int → List Int → Bool → Int → Bool → Int → List Int → Option (Bool)
  | 0, _, _, _, _, _, _, _, _, _, _, _, _, _, _ => none
  | k + 1, x5, x6, x7, x67, x461000, x461001, x461002, x461003, x461004, x462000, x462001, x462002, x462003, x462004 => if x67 = true then (none) else (if (x461000 == x462000) = true then (if x461001 = x462001 then (if x5 = true then ((phaetonref01_Same.f k x6 x7).bind fun t486 => (if (t486 == (x461002 == x462002)) = true then (if 0 ≤ (mn (x6.length : Int) (x7.length : Int)) then (if (mn (x6.length : Int) (x7.length : Int)) ≤ (x6.length : Int) then (if (mn (x6.length : Int) (x7.length : Int)) ≤ (x7.length : Int) then ((phaetonref01_Same.f k (x6.take ((mn (x6.length : Int) (x7.length : Int)) : Int).toNat) (x7.take ((mn (x6.length : Int) (x7.length : Int)) : Int).toNat)).bind fun t495 => (if (t495 == (x461002 == x462002)) = true then (some true) else (none))) else (none)) else (none)) else (none)) else (none))) else (none)) else (if x5 = true then ((phaetonref01_Same.f k x6 x7).bind fun t496 => (if (t496 == false) = true then (if 0 ≤ (mn (x6.length : Int) (x7.length : Int)) then (if (mn (x6.length : Int) (x7.length : Int)) ≤ (x6.length : Int) then (if (mn (x6.length : Int) (x7.length : Int)) ≤ (x7.length : Int) then ((phaetonref01_Same.f k (x6.take ((mn (x6.length : Int) (x7.length : Int)) : Int).toNat) (x7.take ((mn (x6.length : Int) (x7.length : Int)) : Int).toNat)).bind fun t505 => (if (t505 == false) = true then (some true) else (none))) else (none)) else (none)) else (none)) else (none))) else (none))) else (if x5 = true then ((phaetonref01_Same.f k x6 x7).bind fun t506 => (if (t506 == false) = true then (if 0 ≤ (mn (x6.length : Int) (x7.length : Int)) then (if (mn (x6.length : Int) (x7.length : Int)) ≤ (x6.length : Int) then (if (mn (x6.length : Int) (x7.length : Int)) ≤ (x7.length : Int) then ((phaetonref01_Same.f k (x6.take ((mn (x6.length : Int) (x7.length : Int)) : Int).toNat) (x7.take ((mn (x6.length : Int) (x7.length : Int)) : Int).toNat)).bind fun t515 => (if (t515 == false) = true then (some true) else (none))) else (none)) else (none)) else (none)) else (none))) else (none)))
end
def phaetonlaw04_FrameRank.f (k : Nat) (a0_0 : Bool) (a0_1 : Int) (a0_2 : Bool) (a0_3 : Int) (l0_4 : List Int) (a1_0 : Bool) (a1_1 : Int) (a1_2 : Bool) (a1_3 : Int) (l1_4 : List Int) : Option (Bool) := (phaetonlaw04_head.f k).bind fun t462 => ((phaetonlaw04_Great.f a0_0 a0_1 a0_2 a0_3 l0_4).bind fun t463 => (if t463 = true then (phaetonlaw04_FrameRank.j0 k t462 true a0_0 a0_1 a0_2 a0_3 l0_4 a1_0 a1_1 a1_2 a1_3 l1_4) else ((phaetonlaw04_Great.f a1_0 a1_1 a1_2 a1_3 l1_4).bind fun t464 => (if t464 = true then (phaetonlaw04_FrameRank.j0 k t462 true a0_0 a0_1 a0_2 a0_3 l0_4 a1_0 a1_1 a1_2 a1_3 l1_4) else ((phaetonref04_Right.f k a0_0 a0_1 a0_2 a0_3 l0_4).bind fun t465 => (if t465 = true then ((phaetonref04_Right.f k a1_0 a1_1 a1_2 a1_3 l1_4).bind fun t466 => (phaetonlaw04_FrameRank.j0 k t462 (!t466) a0_0 a0_1 a0_2 a0_3 l0_4 a1_0 a1_1 a1_2 a1_3 l1_4)) else (phaetonlaw04_FrameRank.j0 k t462 true a0_0 a0_1 a0_2 a0_3 l0_4 a1_0 a1_1 a1_2 a1_3 l1_4)))))))
theorem phaetonlaw04_FrameRank.mono_l : ∀ k, (∀ y0 y1 y2 y3 y4 y5 y6 y7 y8 y9 y10 y11, LeO (phaetonlaw04_FrameRank.j0 k y0 y1 y2 y3 y4 y5 y6 y7 y8 y9 y10 y11) (phaetonlaw04_FrameRank.j0 (k + 1) y0 y1 y2 y3 y4 y5 y6 y7 y8 y9 y10 y11)) ∧ (∀ y0 y1 y2 y3 y4 y5 y6 y7 y8 y9 y10 y11 y12 y13, LeO (phaetonlaw04_FrameRank.j1 k y0 y1 y2 y3 y4 y5 y6 y7 y8 y9 y10 y11 y12 y13) (phaetonlaw04_FrameRank.j1 (k + 1) y0 y1 y2 y3 y4 y5 y6 y7 y8 y9 y10 y11 y12 y13))
  | 0 => ⟨fun _ _ _ _ _ _ _ _ _ _ _ _ r h => by simp [phaetonlaw04_FrameRank.j0] at h, fun _ _ _ _ _ _ _ _ _ _ _ _ _ _ r h => by simp [phaetonlaw04_FrameRank.j1] at h⟩
  | k + 1 => by
    obtain ⟨ih0, ih1⟩ := phaetonlaw04_FrameRank.mono_l k
    refine ⟨?_, ?_⟩
    · intro y0 y1 y2 y3 y4 y5 y6 y7 y8 y9 y10 y11
      unfold phaetonlaw04_FrameRank.j0
      repeat' first
      | (with_reducible exact ih0 _ _ _ _ _ _ _ _ _ _ _ _)
      | (with_reducible exact ih1 _ _ _ _ _ _ _ _ _ _ _ _ _ _)
      | (with_reducible exact phaetonlaw04_head.mono _)
      | (with_reducible exact phaetonref01_Same.mono _ _ _)
      | (with_reducible exact phaetonref04_Right.mono _ _ _ _ _ _)
      | (with_reducible exact LeO.refl _)
      | (with_reducible exact LeO.none _)
      | (with_reducible refine LeO.ite ?_ ?_)
      | (with_reducible refine LeO.bind ?_ (fun _ => ?_))
      | exact ih0 _ _ _ _ _ _ _ _ _ _ _ _
      | exact ih1 _ _ _ _ _ _ _ _ _ _ _ _ _ _
      | exact phaetonlaw04_head.mono _
      | exact phaetonref01_Same.mono _ _ _
      | exact phaetonref04_Right.mono _ _ _ _ _ _
      | exact LeO.none _
      | refine LeO.ite ?_ ?_
      | refine LeO.bind ?_ (fun _ => ?_)
    · intro y0 y1 y2 y3 y4 y5 y6 y7 y8 y9 y10 y11 y12 y13
      unfold phaetonlaw04_FrameRank.j1
      repeat' first
      | (with_reducible exact ih0 _ _ _ _ _ _ _ _ _ _ _ _)
      | (with_reducible exact ih1 _ _ _ _ _ _ _ _ _ _ _ _ _ _)
      | (with_reducible exact phaetonlaw04_head.mono _)
      | (with_reducible exact phaetonref01_Same.mono _ _ _)
      | (with_reducible exact phaetonref04_Right.mono _ _ _ _ _ _)
      | (with_reducible exact LeO.refl _)
      | (with_reducible exact LeO.none _)
      | (with_reducible refine LeO.ite ?_ ?_)
      | (with_reducible refine LeO.bind ?_ (fun _ => ?_))
      | exact ih0 _ _ _ _ _ _ _ _ _ _ _ _
      | exact ih1 _ _ _ _ _ _ _ _ _ _ _ _ _ _
      | exact phaetonlaw04_head.mono _
      | exact phaetonref01_Same.mono _ _ _
      | exact phaetonref04_Right.mono _ _ _ _ _ _
      | exact LeO.none _
      | refine LeO.ite ?_ ?_
      | refine LeO.bind ?_ (fun _ => ?_)
theorem phaetonlaw04_FrameRank.mono : ∀ a0 a1 a2 a3 a4 a5 a6 a7 a8 a9 k, LeO (phaetonlaw04_FrameRank.f k a0 a1 a2 a3 a4 a5 a6 a7 a8 a9) (phaetonlaw04_FrameRank.f (k + 1) a0 a1 a2 a3 a4 a5 a6 a7 a8 a9) := by
  intro a0 a1 a2 a3 a4 a5 a6 a7 a8 a9 k
  obtain ⟨ih0, ih1⟩ := phaetonlaw04_FrameRank.mono_l k
  unfold phaetonlaw04_FrameRank.f
  repeat' first
      | (with_reducible exact ih0 _ _ _ _ _ _ _ _ _ _ _ _)
      | (with_reducible exact ih1 _ _ _ _ _ _ _ _ _ _ _ _ _ _)
      | (with_reducible exact phaetonlaw04_head.mono _)
      | (with_reducible exact phaetonref01_Same.mono _ _ _)
      | (with_reducible exact phaetonref04_Right.mono _ _ _ _ _ _)
      | (with_reducible exact LeO.refl _)
      | (with_reducible exact LeO.none _)
      | (with_reducible refine LeO.ite ?_ ?_)
      | (with_reducible refine LeO.bind ?_ (fun _ => ?_))
      | exact ih0 _ _ _ _ _ _ _ _ _ _ _ _
      | exact ih1 _ _ _ _ _ _ _ _ _ _ _ _ _ _
      | exact phaetonlaw04_head.mono _
      | exact phaetonref01_Same.mono _ _ _
      | exact phaetonref04_Right.mono _ _ _ _ _ _
      | exact LeO.none _
      | refine LeO.ite ?_ ?_
      | refine LeO.bind ?_ (fun _ => ?_)
set_option maxHeartbeats 8000000 in
set_option maxRecDepth 100000 in
theorem phaetonlaw04_FrameRank.calls (k : Nat) (a0_0 : Bool) (a0_1 : Int) (a0_2 : Bool) (a0_3 : Int) (A0_4 : Option Addr) (c0_4 : Nat) (l0_4 : List Int) (a1_0 : Bool) (a1_1 : Int) (a1_2 : Bool) (a1_3 : Int) (A1_4 : Option Addr) (c1_4 : Nat) (l1_4 : List Int) (r : Bool) (w : World) (hr0_4 : Kd.C (Kd.int .u8) w A0_4 l0_4.length l0_4) (hc0_4 : l0_4.length ≤ c0_4) (hr1_4 : Kd.C (Kd.int .u8) w A1_4 l1_4.length l1_4) (hc1_4 : l1_4.length ≤ c1_4) (h : phaetonlaw04_FrameRank.f k a0_0 a0_1 a0_2 a0_3 l0_4 a1_0 a1_1 a1_2 a1_3 l1_4 = some r) :
    Calls Try.prog 6 #[.agg #[.bool a0_0, .int .i64 a0_1, .bool a0_2, .int .i64 a0_3, .slice A0_4 l0_4.length c0_4], .agg #[.bool a1_0, .int .i64 a1_1, .bool a1_2, .int .i64 a1_3, .slice A1_4 l1_4.length c1_4]] w fun e w' => e = .returned (.bool r) ∧ Below w.heap.size w w' := by
  have hu24 := Try.underlying24
  have HR0_4 := Aside0.mk hr0_4
  have HC0_4 := Aside0.mk hc0_4
  clear hr0_4 hc0_4
  have HR1_4 := Aside0.mk hr1_4
  have HC1_4 := Aside0.mk hc1_4
  clear hr1_4 hc1_4
  have HB := Aside0.mk (Below.refl w.heap.size w)
  have H : ((phaetonlaw04_head.f k).bind fun t462 => ((phaetonlaw04_Great.f a0_0 a0_1 a0_2 a0_3 l0_4).bind fun t463 => (if t463 = true then (phaetonlaw04_FrameRank.j0 k t462 true a0_0 a0_1 a0_2 a0_3 l0_4 a1_0 a1_1 a1_2 a1_3 l1_4) else ((phaetonlaw04_Great.f a1_0 a1_1 a1_2 a1_3 l1_4).bind fun t464 => (if t464 = true then (phaetonlaw04_FrameRank.j0 k t462 true a0_0 a0_1 a0_2 a0_3 l0_4 a1_0 a1_1 a1_2 a1_3 l1_4) else ((phaetonref04_Right.f k a0_0 a0_1 a0_2 a0_3 l0_4).bind fun t465 => (if t465 = true then ((phaetonref04_Right.f k a1_0 a1_1 a1_2 a1_3 l1_4).bind fun t466 => (phaetonlaw04_FrameRank.j0 k t462 (!t466) a0_0 a0_1 a0_2 a0_3 l0_4 a1_0 a1_1 a1_2 a1_3 l1_4)) else (phaetonlaw04_FrameRank.j0 k t462 true a0_0 a0_1 a0_2 a0_3 l0_4 a1_0 a1_1 a1_2 a1_3 l1_4)))))))) = some r := h
  clear h
  replace H := Option.bind_eq_some_iff.mp H
  obtain ⟨t462, A30, H⟩ := H
  replace H : ((phaetonlaw04_Great.f a0_0 a0_1 a0_2 a0_3 l0_4).bind fun t463 => (if t463 = true then (phaetonlaw04_FrameRank.j0 k t462 true a0_0 a0_1 a0_2 a0_3 l0_4 a1_0 a1_1 a1_2 a1_3 l1_4) else ((phaetonlaw04_Great.f a1_0 a1_1 a1_2 a1_3 l1_4).bind fun t464 => (if t464 = true then (phaetonlaw04_FrameRank.j0 k t462 true a0_0 a0_1 a0_2 a0_3 l0_4 a1_0 a1_1 a1_2 a1_3 l1_4) else ((phaetonref04_Right.f k a0_0 a0_1 a0_2 a0_3 l0_4).bind fun t465 => (if t465 = true then ((phaetonref04_Right.f k a1_0 a1_1 a1_2 a1_3 l1_4).bind fun t466 => (phaetonlaw04_FrameRank.j0 k t462 (!t466) a0_0 a0_1 a0_2 a0_3 l0_4 a1_0 a1_1 a1_2 a1_3 l1_4)) else (phaetonlaw04_FrameRank.j0 k t462 true a0_0 a0_1 a0_2 a0_3 l0_4 a1_0 a1_1 a1_2 a1_3 l1_4))))))) = some r := H
  have A3 := Aside0.mk A30
  clear A30
  have HC4 := Aside0.mk H
  clear H
  go_enter Try.func6, Try.ntmps6
  (try simp only [List.append])
  go_upto_region 2 with (first | ((with_reducible refine gate_dst (N := 2) rfl ?_); (try (refine gate_guard (by rfl) ?_; dsimp only)); refine box_event ?hg (N := 2) ?hd (cs := #[.bool a0_0, .int .i64 a0_1, .bool a0_2, .int .i64 a0_3, .slice A0_4 l0_4.length c0_4]) (t := 24) ?hr ?_; (case hd => rfl); (case hg => rfl); (case hr => first | (go_simp; done) | (go_simp; rfl)); intro gb460 hg w5 hbox hb; have n0_ := Aside0.mk (below_step (by repeat (first | (with_reducible first | exact HB.out | apply below_alloc | apply pw_below_drewN | apply below_drew1) | exact HB.out)) hb); have n1_ := Aside0.mk (hbox); have n2_ := Aside0.mk ((by rw [hg]; exact (below_size (by repeat (first | (with_reducible first | exact HB.out | apply below_alloc | apply pw_below_drewN | apply below_drew1) | exact HB.out))) : w.heap.size ≤ gb460)); have n3_ := Aside0.mk ((by rw [hg]; exact (below_size (by repeat (first | (with_reducible first | exact HB.out | apply below_alloc | apply pw_below_drewN | apply below_drew1) | exact HB.out))) : w.heap.size ≤ gb460)); clear HB; have HB := n0_; have BK460 := n1_; have GW460 := n2_; have GE460 := n3_; clear n0_ n1_ n2_ n3_; clear hb hbox hg) | ((with_reducible refine gate_dst (N := 3) rfl ?_); (try (refine gate_guard (by rfl) ?_; dsimp only)); refine box_event ?hg (N := 3) ?hd (cs := #[.bool a1_0, .int .i64 a1_1, .bool a1_2, .int .i64 a1_3, .slice A1_4 l1_4.length c1_4]) (t := 24) ?hr ?_; (case hd => rfl); (case hg => rfl); (case hr => first | (go_simp; done) | (go_simp; rfl)); intro gb461 hg w6 hbox hb; have n0_ := Aside0.mk (blk_below (g := gb460) (o := .cells #[.bool a0_0, .int .i64 a0_1, .bool a0_2, .int .i64 a0_3, .slice A0_4 l0_4.length c0_4] 24 (0, 0)) (by (with_reducible repeat (first | refine blk_drewN ?_ _ | refine blk_drew ?_ | refine blk_alloc ?_ _)); exact BK460.out) hb); have n1_ := Aside0.mk (below_step (by repeat (first | (with_reducible first | exact HB.out | apply below_alloc | apply pw_below_drewN | apply below_drew1 | refine below_set ?_ GE460.out) | exact HB.out)) hb); have n2_ := Aside0.mk (hbox); have n3_ := Aside0.mk ((by rw [hg]; exact (below_size (by repeat (first | (with_reducible first | exact HB.out | apply below_alloc | apply pw_below_drewN | apply below_drew1 | refine below_set ?_ GE460.out) | exact HB.out))) : w.heap.size ≤ gb461)); have n4_ := Aside0.mk ((by rw [hg]; exact (below_size (by repeat (first | (with_reducible first | exact HB.out | apply below_alloc | apply pw_below_drewN | apply below_drew1 | refine below_set ?_ GE460.out) | exact HB.out))) : w.heap.size ≤ gb461)); have n5_ := Aside0.mk ((by rw [hg]; exact Nat.ne_of_lt (blk_lt (g := gb460) (o := .cells #[.bool a0_0, .int .i64 a0_1, .bool a0_2, .int .i64 a0_3, .slice A0_4 l0_4.length c0_4] 24 (0, 0)) (by (with_reducible repeat (first | refine blk_drewN ?_ _ | refine blk_drew ?_ | refine blk_alloc ?_ _)); exact BK460.out)) : gb460 ≠ gb461)); have n6_ := Aside0.mk ((by rw [hg]; exact Nat.ne_of_gt (blk_lt (g := gb460) (o := .cells #[.bool a0_0, .int .i64 a0_1, .bool a0_2, .int .i64 a0_3, .slice A0_4 l0_4.length c0_4] 24 (0, 0)) (by (with_reducible repeat (first | refine blk_drewN ?_ _ | refine blk_drew ?_ | refine blk_alloc ?_ _)); exact BK460.out)) : gb461 ≠ gb460)); clear BK460; clear HB; have BK460 := n0_; have HB := n1_; have BK461 := n2_; have GW461 := n3_; have GE461 := n4_; have NB460_461 := n5_; have NB461_460 := n6_; clear n0_ n1_ n2_ n3_ n4_ n5_ n6_; clear hb hbox hg) | (go_at_call 10; (with_reducible refine (phaetonlaw04_head.calls k  t462 _ A3.out).mono ?_); rintro e w7 ⟨rfl, hb⟩; have n0_ := Aside0.mk (blk_below (g := gb460) (o := .cells #[.bool a0_0, .int .i64 a0_1, .bool a0_2, .int .i64 a0_3, .slice A0_4 l0_4.length c0_4] 24 (0, 0)) (by (with_reducible repeat (first | refine blk_drewN ?_ _ | refine blk_drew ?_ | refine blk_alloc ?_ _)); exact BK460.out) hb); have n1_ := Aside0.mk (blk_below (g := gb461) (o := .cells #[.bool a1_0, .int .i64 a1_1, .bool a1_2, .int .i64 a1_3, .slice A1_4 l1_4.length c1_4] 24 (0, 0)) (by (with_reducible repeat (first | refine blk_drewN ?_ _ | refine blk_drew ?_ | refine blk_alloc ?_ _)); exact BK461.out) hb); have n2_ := Aside0.mk (below_step (by repeat (first | (with_reducible first | exact HB.out | apply below_alloc | apply pw_below_drewN | apply below_drew1 | refine below_set ?_ GE460.out | refine below_set ?_ GE461.out) | exact HB.out)) hb); clear BK460; clear BK461; clear HB; have BK460 := n0_; have BK461 := n1_; have HB := n2_; clear n0_ n1_ n2_; (try clear hb); (try clear hb2); (try clear hk); (try clear hi)))
  repeat (go_quiet (first | ((with_reducible refine gate_dst (N := 2) rfl ?_); (try (refine gate_guard (by rfl) ?_; dsimp only)); refine box_event ?hg (N := 2) ?hd (cs := #[.bool a0_0, .int .i64 a0_1, .bool a0_2, .int .i64 a0_3, .slice A0_4 l0_4.length c0_4]) (t := 24) ?hr ?_; (case hd => rfl); (case hg => rfl); (case hr => first | (go_simp; done) | (go_simp; rfl)); intro gb460 hg w5 hbox hb; have n0_ := Aside0.mk (below_step (by repeat (first | (with_reducible first | exact HB.out | apply below_alloc | apply pw_below_drewN | apply below_drew1) | exact HB.out)) hb); have n1_ := Aside0.mk (hbox); have n2_ := Aside0.mk ((by rw [hg]; exact (below_size (by repeat (first | (with_reducible first | exact HB.out | apply below_alloc | apply pw_below_drewN | apply below_drew1) | exact HB.out))) : w.heap.size ≤ gb460)); have n3_ := Aside0.mk ((by rw [hg]; exact (below_size (by repeat (first | (with_reducible first | exact HB.out | apply below_alloc | apply pw_below_drewN | apply below_drew1) | exact HB.out))) : w.heap.size ≤ gb460)); clear HB; have HB := n0_; have BK460 := n1_; have GW460 := n2_; have GE460 := n3_; clear n0_ n1_ n2_ n3_; clear hb hbox hg) | ((with_reducible refine gate_dst (N := 3) rfl ?_); (try (refine gate_guard (by rfl) ?_; dsimp only)); refine box_event ?hg (N := 3) ?hd (cs := #[.bool a1_0, .int .i64 a1_1, .bool a1_2, .int .i64 a1_3, .slice A1_4 l1_4.length c1_4]) (t := 24) ?hr ?_; (case hd => rfl); (case hg => rfl); (case hr => first | (go_simp; done) | (go_simp; rfl)); intro gb461 hg w6 hbox hb; have n0_ := Aside0.mk (blk_below (g := gb460) (o := .cells #[.bool a0_0, .int .i64 a0_1, .bool a0_2, .int .i64 a0_3, .slice A0_4 l0_4.length c0_4] 24 (0, 0)) (by (with_reducible repeat (first | refine blk_drewN ?_ _ | refine blk_drew ?_ | refine blk_alloc ?_ _)); exact BK460.out) hb); have n1_ := Aside0.mk (below_step (by repeat (first | (with_reducible first | exact HB.out | apply below_alloc | apply pw_below_drewN | apply below_drew1 | refine below_set ?_ GE460.out) | exact HB.out)) hb); have n2_ := Aside0.mk (hbox); have n3_ := Aside0.mk ((by rw [hg]; exact (below_size (by repeat (first | (with_reducible first | exact HB.out | apply below_alloc | apply pw_below_drewN | apply below_drew1 | refine below_set ?_ GE460.out) | exact HB.out))) : w.heap.size ≤ gb461)); have n4_ := Aside0.mk ((by rw [hg]; exact (below_size (by repeat (first | (with_reducible first | exact HB.out | apply below_alloc | apply pw_below_drewN | apply below_drew1 | refine below_set ?_ GE460.out) | exact HB.out))) : w.heap.size ≤ gb461)); have n5_ := Aside0.mk ((by rw [hg]; exact Nat.ne_of_lt (blk_lt (g := gb460) (o := .cells #[.bool a0_0, .int .i64 a0_1, .bool a0_2, .int .i64 a0_3, .slice A0_4 l0_4.length c0_4] 24 (0, 0)) (by (with_reducible repeat (first | refine blk_drewN ?_ _ | refine blk_drew ?_ | refine blk_alloc ?_ _)); exact BK460.out)) : gb460 ≠ gb461)); have n6_ := Aside0.mk ((by rw [hg]; exact Nat.ne_of_gt (blk_lt (g := gb460) (o := .cells #[.bool a0_0, .int .i64 a0_1, .bool a0_2, .int .i64 a0_3, .slice A0_4 l0_4.length c0_4] 24 (0, 0)) (by (with_reducible repeat (first | refine blk_drewN ?_ _ | refine blk_drew ?_ | refine blk_alloc ?_ _)); exact BK460.out)) : gb461 ≠ gb460)); clear BK460; clear HB; have BK460 := n0_; have HB := n1_; have BK461 := n2_; have GW461 := n3_; have GE461 := n4_; have NB460_461 := n5_; have NB461_460 := n6_; clear n0_ n1_ n2_ n3_ n4_ n5_ n6_; clear hb hbox hg) | (go_at_call 10; (with_reducible refine (phaetonlaw04_head.calls k  t462 _ A3.out).mono ?_); rintro e w7 ⟨rfl, hb⟩; have n0_ := Aside0.mk (blk_below (g := gb460) (o := .cells #[.bool a0_0, .int .i64 a0_1, .bool a0_2, .int .i64 a0_3, .slice A0_4 l0_4.length c0_4] 24 (0, 0)) (by (with_reducible repeat (first | refine blk_drewN ?_ _ | refine blk_drew ?_ | refine blk_alloc ?_ _)); exact BK460.out) hb); have n1_ := Aside0.mk (blk_below (g := gb461) (o := .cells #[.bool a1_0, .int .i64 a1_1, .bool a1_2, .int .i64 a1_3, .slice A1_4 l1_4.length c1_4] 24 (0, 0)) (by (with_reducible repeat (first | refine blk_drewN ?_ _ | refine blk_drew ?_ | refine blk_alloc ?_ _)); exact BK461.out) hb); have n2_ := Aside0.mk (below_step (by repeat (first | (with_reducible first | exact HB.out | apply below_alloc | apply pw_below_drewN | apply below_drew1 | refine below_set ?_ GE460.out | refine below_set ?_ GE461.out) | exact HB.out)) hb); clear BK460; clear BK461; clear HB; have BK460 := n0_; have BK461 := n1_; have HB := n2_; clear n0_ n1_ n2_; (try clear hb); (try clear hb2); (try clear hk); (try clear hi))); go_upto_region 2 with (first | ((with_reducible refine gate_dst (N := 2) rfl ?_); (try (refine gate_guard (by rfl) ?_; dsimp only)); refine box_event ?hg (N := 2) ?hd (cs := #[.bool a0_0, .int .i64 a0_1, .bool a0_2, .int .i64 a0_3, .slice A0_4 l0_4.length c0_4]) (t := 24) ?hr ?_; (case hd => rfl); (case hg => rfl); (case hr => first | (go_simp; done) | (go_simp; rfl)); intro gb460 hg w5 hbox hb; have n0_ := Aside0.mk (below_step (by repeat (first | (with_reducible first | exact HB.out | apply below_alloc | apply pw_below_drewN | apply below_drew1) | exact HB.out)) hb); have n1_ := Aside0.mk (hbox); have n2_ := Aside0.mk ((by rw [hg]; exact (below_size (by repeat (first | (with_reducible first | exact HB.out | apply below_alloc | apply pw_below_drewN | apply below_drew1) | exact HB.out))) : w.heap.size ≤ gb460)); have n3_ := Aside0.mk ((by rw [hg]; exact (below_size (by repeat (first | (with_reducible first | exact HB.out | apply below_alloc | apply pw_below_drewN | apply below_drew1) | exact HB.out))) : w.heap.size ≤ gb460)); clear HB; have HB := n0_; have BK460 := n1_; have GW460 := n2_; have GE460 := n3_; clear n0_ n1_ n2_ n3_; clear hb hbox hg) | ((with_reducible refine gate_dst (N := 3) rfl ?_); (try (refine gate_guard (by rfl) ?_; dsimp only)); refine box_event ?hg (N := 3) ?hd (cs := #[.bool a1_0, .int .i64 a1_1, .bool a1_2, .int .i64 a1_3, .slice A1_4 l1_4.length c1_4]) (t := 24) ?hr ?_; (case hd => rfl); (case hg => rfl); (case hr => first | (go_simp; done) | (go_simp; rfl)); intro gb461 hg w6 hbox hb; have n0_ := Aside0.mk (blk_below (g := gb460) (o := .cells #[.bool a0_0, .int .i64 a0_1, .bool a0_2, .int .i64 a0_3, .slice A0_4 l0_4.length c0_4] 24 (0, 0)) (by (with_reducible repeat (first | refine blk_drewN ?_ _ | refine blk_drew ?_ | refine blk_alloc ?_ _)); exact BK460.out) hb); have n1_ := Aside0.mk (below_step (by repeat (first | (with_reducible first | exact HB.out | apply below_alloc | apply pw_below_drewN | apply below_drew1 | refine below_set ?_ GE460.out) | exact HB.out)) hb); have n2_ := Aside0.mk (hbox); have n3_ := Aside0.mk ((by rw [hg]; exact (below_size (by repeat (first | (with_reducible first | exact HB.out | apply below_alloc | apply pw_below_drewN | apply below_drew1 | refine below_set ?_ GE460.out) | exact HB.out))) : w.heap.size ≤ gb461)); have n4_ := Aside0.mk ((by rw [hg]; exact (below_size (by repeat (first | (with_reducible first | exact HB.out | apply below_alloc | apply pw_below_drewN | apply below_drew1 | refine below_set ?_ GE460.out) | exact HB.out))) : w.heap.size ≤ gb461)); have n5_ := Aside0.mk ((by rw [hg]; exact Nat.ne_of_lt (blk_lt (g := gb460) (o := .cells #[.bool a0_0, .int .i64 a0_1, .bool a0_2, .int .i64 a0_3, .slice A0_4 l0_4.length c0_4] 24 (0, 0)) (by (with_reducible repeat (first | refine blk_drewN ?_ _ | refine blk_drew ?_ | refine blk_alloc ?_ _)); exact BK460.out)) : gb460 ≠ gb461)); have n6_ := Aside0.mk ((by rw [hg]; exact Nat.ne_of_gt (blk_lt (g := gb460) (o := .cells #[.bool a0_0, .int .i64 a0_1, .bool a0_2, .int .i64 a0_3, .slice A0_4 l0_4.length c0_4] 24 (0, 0)) (by (with_reducible repeat (first | refine blk_drewN ?_ _ | refine blk_drew ?_ | refine blk_alloc ?_ _)); exact BK460.out)) : gb461 ≠ gb460)); clear BK460; clear HB; have BK460 := n0_; have HB := n1_; have BK461 := n2_; have GW461 := n3_; have GE461 := n4_; have NB460_461 := n5_; have NB461_460 := n6_; clear n0_ n1_ n2_ n3_ n4_ n5_ n6_; clear hb hbox hg) | (go_at_call 10; (with_reducible refine (phaetonlaw04_head.calls k  t462 _ A3.out).mono ?_); rintro e w7 ⟨rfl, hb⟩; have n0_ := Aside0.mk (blk_below (g := gb460) (o := .cells #[.bool a0_0, .int .i64 a0_1, .bool a0_2, .int .i64 a0_3, .slice A0_4 l0_4.length c0_4] 24 (0, 0)) (by (with_reducible repeat (first | refine blk_drewN ?_ _ | refine blk_drew ?_ | refine blk_alloc ?_ _)); exact BK460.out) hb); have n1_ := Aside0.mk (blk_below (g := gb461) (o := .cells #[.bool a1_0, .int .i64 a1_1, .bool a1_2, .int .i64 a1_3, .slice A1_4 l1_4.length c1_4] 24 (0, 0)) (by (with_reducible repeat (first | refine blk_drewN ?_ _ | refine blk_drew ?_ | refine blk_alloc ?_ _)); exact BK461.out) hb); have n2_ := Aside0.mk (below_step (by repeat (first | (with_reducible first | exact HB.out | apply below_alloc | apply pw_below_drewN | apply below_drew1 | refine below_set ?_ GE460.out | refine below_set ?_ GE461.out) | exact HB.out)) hb); clear BK460; clear BK461; clear HB; have BK460 := n0_; have BK461 := n1_; have HB := n2_; clear n0_ n1_ n2_; (try clear hb); (try clear hb2); (try clear hk); (try clear hi))))
  (try simp only [Act.put, List.setIfInBounds_toArray, List.set_cons_zero, List.set_cons_succ])
  go_cut [27] (fun v27 wc => ∃ (kq : Nat) (x27_3 : Bool), v27 = .bool x27_3 ∧ Aside0 (phaetonlaw04_FrameRank.j0 kq t462 x27_3 a0_0 a0_1 a0_2 a0_3 l0_4 a1_0 a1_1 a1_2 a1_3 l1_4 = some r) ∧ Aside0 (kq ≤ k) ∧ Aside0 (wc.heap[gb460]? = some (.cells #[.bool a0_0, .int .i64 a0_1, .bool a0_2, .int .i64 a0_3, (.slice A0_4 l0_4.length c0_4)] 24 (0, 0))) ∧ Aside0 (wc.heap[gb461]? = some (.cells #[.bool a1_0, .int .i64 a1_1, .bool a1_2, .int .i64 a1_3, (.slice A1_4 l1_4.length c1_4)] 24 (0, 0))) ∧ Aside0 (Below w.heap.size w wc))
  case first =>
    have H := HC4.out
    clear HC4
    replace H := Option.bind_eq_some_iff.mp H
    obtain ⟨t463, A80, H⟩ := H
    replace H : (if t463 = true then (phaetonlaw04_FrameRank.j0 k t462 true a0_0 a0_1 a0_2 a0_3 l0_4 a1_0 a1_1 a1_2 a1_3 l1_4) else ((phaetonlaw04_Great.f a1_0 a1_1 a1_2 a1_3 l1_4).bind fun t464 => (if t464 = true then (phaetonlaw04_FrameRank.j0 k t462 true a0_0 a0_1 a0_2 a0_3 l0_4 a1_0 a1_1 a1_2 a1_3 l1_4) else ((phaetonref04_Right.f k a0_0 a0_1 a0_2 a0_3 l0_4).bind fun t465 => (if t465 = true then ((phaetonref04_Right.f k a1_0 a1_1 a1_2 a1_3 l1_4).bind fun t466 => (phaetonlaw04_FrameRank.j0 k t462 (!t466) a0_0 a0_1 a0_2 a0_3 l0_4 a1_0 a1_1 a1_2 a1_3 l1_4)) else (phaetonlaw04_FrameRank.j0 k t462 true a0_0 a0_1 a0_2 a0_3 l0_4 a1_0 a1_1 a1_2 a1_3 l1_4)))))) = some r := H
    have A8 := Aside0.mk A80
    clear A80
    by_cases c9 : t463 = true
    · subst c9
      have H1 : (phaetonlaw04_FrameRank.j0 k t462 true a0_0 a0_1 a0_2 a0_3 l0_4 a1_0 a1_1 a1_2 a1_3 l1_4) = some r := by rw [if_pos rfl] at H; exact H
      clear H
      have H := H1
      clear H1
      have H' := Aside0.mk H
      clear H
      have hnb10 := NB460_461.out
      have hnc10 := NB461_460.out
      have hcz11_0 : w7.cell? ⟨gb460, 0, none⟩ = some (.bool a0_0) := (blk_cell BK460.out 0).trans rfl
      have hcz11_1 : w7.cell? ⟨gb460, 1, none⟩ = some (.int .i64 a0_1) := (blk_cell BK460.out 1).trans rfl
      have hcz11_2 : w7.cell? ⟨gb460, 2, none⟩ = some (.bool a0_2) := (blk_cell BK460.out 2).trans rfl
      have hcz11_3 : w7.cell? ⟨gb460, 3, none⟩ = some (.int .i64 a0_3) := (blk_cell BK460.out 3).trans rfl
      have hcz11_4 : w7.cell? ⟨gb460, 4, none⟩ = some (.slice A0_4 l0_4.length c0_4) := (blk_cell BK460.out 4).trans rfl
      have hfz11_0 := blk_frozen BK460.out 0
      have hfz11_1 := blk_frozen BK460.out 1
      have hfz11_2 := blk_frozen BK460.out 2
      have hfz11_3 := blk_frozen BK460.out 3
      have hfz11_4 := blk_frozen BK460.out 4
      go_wp2_with (first | ((with_reducible refine gate_store (t := 24) (p := 3) rfl ?_); refine HW.store_box2 rfl rfl 24 _ _ rfl rfl rfl BK461.out rfl (by kernel_rfl) (by intro q hq; simp only [List.mem_cons, List.not_mem_nil, or_false] at hq; rcases hq with rfl | rfl | rfl | rfl | rfl <;> rfl) ?_; intro w1_ hw1_ hk1_; simp only [List.toList_toArray, World.setCells, Nat.zero_add, Nat.reduceAdd] at hw1_; subst hw1_; have hcb461_0 := (blk_cell hk1_ 0).trans rfl; have hfb461_0 := blk_frozen hk1_ 0; have hcb461_1 := (blk_cell hk1_ 1).trans rfl; have hfb461_1 := blk_frozen hk1_ 1; have hcb461_2 := (blk_cell hk1_ 2).trans rfl; have hfb461_2 := blk_frozen hk1_ 2; have hcb461_3 := (blk_cell hk1_ 3).trans rfl; have hfb461_3 := blk_frozen hk1_ 3; have hcb461_4 := (blk_cell hk1_ 4).trans rfl; have hfb461_4 := blk_frozen hk1_ 4; clear hk1_) | ((with_reducible refine gate_store (t := 24) (p := 2) rfl ?_); refine HW.store_box2 rfl rfl 24 _ _ rfl rfl rfl BK460.out rfl (by kernel_rfl) (by intro q hq; simp only [List.mem_cons, List.not_mem_nil, or_false] at hq; rcases hq with rfl | rfl | rfl | rfl | rfl <;> rfl) ?_; intro w1_ hw1_ hk1_; simp only [List.toList_toArray, World.setCells, Nat.zero_add, Nat.reduceAdd] at hw1_; subst hw1_; have hcb460_0 := (blk_cell hk1_ 0).trans rfl; have hfb460_0 := blk_frozen hk1_ 0; have hcb460_1 := (blk_cell hk1_ 1).trans rfl; have hfb460_1 := blk_frozen hk1_ 1; have hcb460_2 := (blk_cell hk1_ 2).trans rfl; have hfb460_2 := blk_frozen hk1_ 2; have hcb460_3 := (blk_cell hk1_ 3).trans rfl; have hfb460_3 := blk_frozen hk1_ 3; have hcb460_4 := (blk_cell hk1_ 4).trans rfl; have hfb460_4 := blk_frozen hk1_ 4; clear hk1_) | (go_at_call 11; (with_reducible refine (phaetonlaw04_Great.calls a0_0 a0_1 a0_2 a0_3 _ _ l0_4 true _ ?side1 ?side2 A8.out).mono ?_); (case side1 => repeat (first | exact (Kd.C_below HR0_4.out HB.out) | (with_reducible refine Kd.C_alloc ?_ _) | (with_reducible refine Kd.C_drewN ?_ _) | (with_reducible refine Kd.C_drew ?_))); (case side2 => exact HC0_4.out); rintro e w12 ⟨rfl, hb⟩; have n0_ := Aside0.mk (blk_below (g := gb460) (o := .cells #[.bool a0_0, .int .i64 a0_1, .bool a0_2, .int .i64 a0_3, .slice A0_4 l0_4.length c0_4] 24 (0, 0)) (by (with_reducible repeat (first | refine blk_drewN ?_ _ | refine blk_drew ?_ | refine blk_alloc ?_ _)); exact BK460.out) hb); have n1_ := Aside0.mk (blk_below (g := gb461) (o := .cells #[.bool a1_0, .int .i64 a1_1, .bool a1_2, .int .i64 a1_3, .slice A1_4 l1_4.length c1_4] 24 (0, 0)) (by (with_reducible repeat (first | refine blk_drewN ?_ _ | refine blk_drew ?_ | refine blk_alloc ?_ _)); exact BK461.out) hb); have n2_ := Aside0.mk (below_step (by repeat (first | (with_reducible first | exact HB.out | apply below_alloc | apply pw_below_drewN | apply below_drew1 | refine below_set ?_ GE460.out | refine below_set ?_ GE461.out) | exact HB.out)) hb); clear BK460; clear BK461; clear HB; have BK460 := n0_; have BK461 := n1_; have HB := n2_; clear n0_ n1_ n2_; (try clear hb); (try clear hb2); (try clear hk); (try clear hi)))
      repeat (go_quiet (first | (go_at_call 11; (with_reducible refine (phaetonlaw04_Great.calls a0_0 a0_1 a0_2 a0_3 _ _ l0_4 true _ ?side1 ?side2 A8.out).mono ?_); (case side1 => repeat (first | exact (Kd.C_below HR0_4.out HB.out) | (with_reducible refine Kd.C_alloc ?_ _) | (with_reducible refine Kd.C_drewN ?_ _) | (with_reducible refine Kd.C_drew ?_))); (case side2 => exact HC0_4.out); rintro e w12 ⟨rfl, hb⟩; have n0_ := Aside0.mk (blk_below (g := gb460) (o := .cells #[.bool a0_0, .int .i64 a0_1, .bool a0_2, .int .i64 a0_3, .slice A0_4 l0_4.length c0_4] 24 (0, 0)) (by (with_reducible repeat (first | refine blk_drewN ?_ _ | refine blk_drew ?_ | refine blk_alloc ?_ _)); exact BK460.out) hb); have n1_ := Aside0.mk (blk_below (g := gb461) (o := .cells #[.bool a1_0, .int .i64 a1_1, .bool a1_2, .int .i64 a1_3, .slice A1_4 l1_4.length c1_4] 24 (0, 0)) (by (with_reducible repeat (first | refine blk_drewN ?_ _ | refine blk_drew ?_ | refine blk_alloc ?_ _)); exact BK461.out) hb); have n2_ := Aside0.mk (below_step (by repeat (first | (with_reducible first | exact HB.out | apply below_alloc | apply pw_below_drewN | apply below_drew1 | refine below_set ?_ GE460.out | refine below_set ?_ GE461.out) | exact HB.out)) hb); clear BK460; clear BK461; clear HB; have BK460 := n0_; have BK461 := n1_; have HB := n2_; clear n0_ n1_ n2_; (try clear hb); (try clear hb2); (try clear hk); (try clear hi))); try go_wp2_with (first | (go_at_call 11; (with_reducible refine (phaetonlaw04_Great.calls a0_0 a0_1 a0_2 a0_3 _ _ l0_4 true _ ?side1 ?side2 A8.out).mono ?_); (case side1 => repeat (first | exact (Kd.C_below HR0_4.out HB.out) | (with_reducible refine Kd.C_alloc ?_ _) | (with_reducible refine Kd.C_drewN ?_ _) | (with_reducible refine Kd.C_drew ?_))); (case side2 => exact HC0_4.out); rintro e w12 ⟨rfl, hb⟩; have n0_ := Aside0.mk (blk_below (g := gb460) (o := .cells #[.bool a0_0, .int .i64 a0_1, .bool a0_2, .int .i64 a0_3, .slice A0_4 l0_4.length c0_4] 24 (0, 0)) (by (with_reducible repeat (first | refine blk_drewN ?_ _ | refine blk_drew ?_ | refine blk_alloc ?_ _)); exact BK460.out) hb); have n1_ := Aside0.mk (blk_below (g := gb461) (o := .cells #[.bool a1_0, .int .i64 a1_1, .bool a1_2, .int .i64 a1_3, .slice A1_4 l1_4.length c1_4] 24 (0, 0)) (by (with_reducible repeat (first | refine blk_drewN ?_ _ | refine blk_drew ?_ | refine blk_alloc ?_ _)); exact BK461.out) hb); have n2_ := Aside0.mk (below_step (by repeat (first | (with_reducible first | exact HB.out | apply below_alloc | apply pw_below_drewN | apply below_drew1 | refine below_set ?_ GE460.out | refine below_set ?_ GE461.out) | exact HB.out)) hb); clear BK460; clear BK461; clear HB; have BK460 := n0_; have BK461 := n1_; have HB := n2_; clear n0_ n1_ n2_; (try clear hb); (try clear hb2); (try clear hk); (try clear hi))))
      go_meet
      case rel => exact ⟨_, (true), (by first | rfl | (simp; done) | (simp [*]; done)), H', ⟨by first | omega | exact Nat.le_refl _⟩, ⟨by (with_reducible repeat (first | refine blk_drewN ?_ _ | refine blk_drew ?_ | refine blk_alloc ?_ _)); exact BK460.out⟩, ⟨by (with_reducible repeat (first | refine blk_drewN ?_ _ | refine blk_drew ?_ | refine blk_alloc ?_ _)); exact BK461.out⟩, ⟨by repeat (first | (with_reducible first | exact HB.out | apply below_alloc | apply pw_below_drewN | apply below_drew1 | refine below_set ?_ GE460.out | refine below_set ?_ GE461.out) | exact HB.out)⟩⟩
    · replace c9 := Bool.eq_false_iff.mpr c9
      subst c9
      have H1 : ((phaetonlaw04_Great.f a1_0 a1_1 a1_2 a1_3 l1_4).bind fun t464 => (if t464 = true then (phaetonlaw04_FrameRank.j0 k t462 true a0_0 a0_1 a0_2 a0_3 l0_4 a1_0 a1_1 a1_2 a1_3 l1_4) else ((phaetonref04_Right.f k a0_0 a0_1 a0_2 a0_3 l0_4).bind fun t465 => (if t465 = true then ((phaetonref04_Right.f k a1_0 a1_1 a1_2 a1_3 l1_4).bind fun t466 => (phaetonlaw04_FrameRank.j0 k t462 (!t466) a0_0 a0_1 a0_2 a0_3 l0_4 a1_0 a1_1 a1_2 a1_3 l1_4)) else (phaetonlaw04_FrameRank.j0 k t462 true a0_0 a0_1 a0_2 a0_3 l0_4 a1_0 a1_1 a1_2 a1_3 l1_4))))) = some r := by rw [if_neg (show ¬ (false = true) by decide)] at H; exact H
      clear H
      have H := H1
      clear H1
      replace H := Option.bind_eq_some_iff.mp H
      obtain ⟨t464, A130, H⟩ := H
      replace H : (if t464 = true then (phaetonlaw04_FrameRank.j0 k t462 true a0_0 a0_1 a0_2 a0_3 l0_4 a1_0 a1_1 a1_2 a1_3 l1_4) else ((phaetonref04_Right.f k a0_0 a0_1 a0_2 a0_3 l0_4).bind fun t465 => (if t465 = true then ((phaetonref04_Right.f k a1_0 a1_1 a1_2 a1_3 l1_4).bind fun t466 => (phaetonlaw04_FrameRank.j0 k t462 (!t466) a0_0 a0_1 a0_2 a0_3 l0_4 a1_0 a1_1 a1_2 a1_3 l1_4)) else (phaetonlaw04_FrameRank.j0 k t462 true a0_0 a0_1 a0_2 a0_3 l0_4 a1_0 a1_1 a1_2 a1_3 l1_4)))) = some r := H
      have A13 := Aside0.mk A130
      clear A130
      by_cases c14 : t464 = true
      · subst c14
        have H1 : (phaetonlaw04_FrameRank.j0 k t462 true a0_0 a0_1 a0_2 a0_3 l0_4 a1_0 a1_1 a1_2 a1_3 l1_4) = some r := by rw [if_pos rfl] at H; exact H
        clear H
        have H := H1
        clear H1
        have H' := Aside0.mk H
        clear H
        have hnb15 := NB460_461.out
        have hnc15 := NB461_460.out
        have hcz16_0 : w7.cell? ⟨gb460, 0, none⟩ = some (.bool a0_0) := (blk_cell BK460.out 0).trans rfl
        have hcz16_1 : w7.cell? ⟨gb460, 1, none⟩ = some (.int .i64 a0_1) := (blk_cell BK460.out 1).trans rfl
        have hcz16_2 : w7.cell? ⟨gb460, 2, none⟩ = some (.bool a0_2) := (blk_cell BK460.out 2).trans rfl
        have hcz16_3 : w7.cell? ⟨gb460, 3, none⟩ = some (.int .i64 a0_3) := (blk_cell BK460.out 3).trans rfl
        have hcz16_4 : w7.cell? ⟨gb460, 4, none⟩ = some (.slice A0_4 l0_4.length c0_4) := (blk_cell BK460.out 4).trans rfl
        have hfz16_0 := blk_frozen BK460.out 0
        have hfz16_1 := blk_frozen BK460.out 1
        have hfz16_2 := blk_frozen BK460.out 2
        have hfz16_3 := blk_frozen BK460.out 3
        have hfz16_4 := blk_frozen BK460.out 4
        go_wp2_with (first | ((with_reducible refine gate_store (t := 24) (p := 3) rfl ?_); refine HW.store_box2 rfl rfl 24 _ _ rfl rfl rfl BK461.out rfl (by kernel_rfl) (by intro q hq; simp only [List.mem_cons, List.not_mem_nil, or_false] at hq; rcases hq with rfl | rfl | rfl | rfl | rfl <;> rfl) ?_; intro w1_ hw1_ hk1_; simp only [List.toList_toArray, World.setCells, Nat.zero_add, Nat.reduceAdd] at hw1_; subst hw1_; have hcb461_0 := (blk_cell hk1_ 0).trans rfl; have hfb461_0 := blk_frozen hk1_ 0; have hcb461_1 := (blk_cell hk1_ 1).trans rfl; have hfb461_1 := blk_frozen hk1_ 1; have hcb461_2 := (blk_cell hk1_ 2).trans rfl; have hfb461_2 := blk_frozen hk1_ 2; have hcb461_3 := (blk_cell hk1_ 3).trans rfl; have hfb461_3 := blk_frozen hk1_ 3; have hcb461_4 := (blk_cell hk1_ 4).trans rfl; have hfb461_4 := blk_frozen hk1_ 4; clear hk1_) | ((with_reducible refine gate_store (t := 24) (p := 2) rfl ?_); refine HW.store_box2 rfl rfl 24 _ _ rfl rfl rfl BK460.out rfl (by kernel_rfl) (by intro q hq; simp only [List.mem_cons, List.not_mem_nil, or_false] at hq; rcases hq with rfl | rfl | rfl | rfl | rfl <;> rfl) ?_; intro w1_ hw1_ hk1_; simp only [List.toList_toArray, World.setCells, Nat.zero_add, Nat.reduceAdd] at hw1_; subst hw1_; have hcb460_0 := (blk_cell hk1_ 0).trans rfl; have hfb460_0 := blk_frozen hk1_ 0; have hcb460_1 := (blk_cell hk1_ 1).trans rfl; have hfb460_1 := blk_frozen hk1_ 1; have hcb460_2 := (blk_cell hk1_ 2).trans rfl; have hfb460_2 := blk_frozen hk1_ 2; have hcb460_3 := (blk_cell hk1_ 3).trans rfl; have hfb460_3 := blk_frozen hk1_ 3; have hcb460_4 := (blk_cell hk1_ 4).trans rfl; have hfb460_4 := blk_frozen hk1_ 4; clear hk1_) | (go_at_call 11; (with_reducible refine (phaetonlaw04_Great.calls a0_0 a0_1 a0_2 a0_3 _ _ l0_4 false _ ?side1 ?side2 A8.out).mono ?_); (case side1 => repeat (first | exact (Kd.C_below HR0_4.out HB.out) | (with_reducible refine Kd.C_alloc ?_ _) | (with_reducible refine Kd.C_drewN ?_ _) | (with_reducible refine Kd.C_drew ?_))); (case side2 => exact HC0_4.out); rintro e w17 ⟨rfl, hb⟩; have n0_ := Aside0.mk (blk_below (g := gb460) (o := .cells #[.bool a0_0, .int .i64 a0_1, .bool a0_2, .int .i64 a0_3, .slice A0_4 l0_4.length c0_4] 24 (0, 0)) (by (with_reducible repeat (first | refine blk_drewN ?_ _ | refine blk_drew ?_ | refine blk_alloc ?_ _)); exact BK460.out) hb); have n1_ := Aside0.mk (blk_below (g := gb461) (o := .cells #[.bool a1_0, .int .i64 a1_1, .bool a1_2, .int .i64 a1_3, .slice A1_4 l1_4.length c1_4] 24 (0, 0)) (by (with_reducible repeat (first | refine blk_drewN ?_ _ | refine blk_drew ?_ | refine blk_alloc ?_ _)); exact BK461.out) hb); have n2_ := Aside0.mk (below_step (by repeat (first | (with_reducible first | exact HB.out | apply below_alloc | apply pw_below_drewN | apply below_drew1 | refine below_set ?_ GE460.out | refine below_set ?_ GE461.out) | exact HB.out)) hb); clear BK460; clear BK461; clear HB; have BK460 := n0_; have BK461 := n1_; have HB := n2_; clear n0_ n1_ n2_; (try clear hb); (try clear hb2); (try clear hk); (try clear hi); have hcz18_0 : w17.cell? ⟨gb461, 0, none⟩ = some (.bool a1_0) := (blk_cell BK461.out 0).trans rfl; have hcz18_1 : w17.cell? ⟨gb461, 1, none⟩ = some (.int .i64 a1_1) := (blk_cell BK461.out 1).trans rfl; have hcz18_2 : w17.cell? ⟨gb461, 2, none⟩ = some (.bool a1_2) := (blk_cell BK461.out 2).trans rfl; have hcz18_3 : w17.cell? ⟨gb461, 3, none⟩ = some (.int .i64 a1_3) := (blk_cell BK461.out 3).trans rfl; have hcz18_4 : w17.cell? ⟨gb461, 4, none⟩ = some (.slice A1_4 l1_4.length c1_4) := (blk_cell BK461.out 4).trans rfl; have hfz18_0 := blk_frozen BK461.out 0; have hfz18_1 := blk_frozen BK461.out 1; have hfz18_2 := blk_frozen BK461.out 2; have hfz18_3 := blk_frozen BK461.out 3; have hfz18_4 := blk_frozen BK461.out 4) | (go_at_call 11; (with_reducible refine (phaetonlaw04_Great.calls a1_0 a1_1 a1_2 a1_3 _ _ l1_4 true _ ?side1 ?side2 A13.out).mono ?_); (case side1 => repeat (first | exact (Kd.C_below HR1_4.out HB.out) | (with_reducible refine Kd.C_alloc ?_ _) | (with_reducible refine Kd.C_drewN ?_ _) | (with_reducible refine Kd.C_drew ?_))); (case side2 => exact HC1_4.out); rintro e w19 ⟨rfl, hb⟩; have n0_ := Aside0.mk (blk_below (g := gb460) (o := .cells #[.bool a0_0, .int .i64 a0_1, .bool a0_2, .int .i64 a0_3, .slice A0_4 l0_4.length c0_4] 24 (0, 0)) (by (with_reducible repeat (first | refine blk_drewN ?_ _ | refine blk_drew ?_ | refine blk_alloc ?_ _)); exact BK460.out) hb); have n1_ := Aside0.mk (blk_below (g := gb461) (o := .cells #[.bool a1_0, .int .i64 a1_1, .bool a1_2, .int .i64 a1_3, .slice A1_4 l1_4.length c1_4] 24 (0, 0)) (by (with_reducible repeat (first | refine blk_drewN ?_ _ | refine blk_drew ?_ | refine blk_alloc ?_ _)); exact BK461.out) hb); have n2_ := Aside0.mk (below_step (by repeat (first | (with_reducible first | exact HB.out | apply below_alloc | apply pw_below_drewN | apply below_drew1 | refine below_set ?_ GE460.out | refine below_set ?_ GE461.out) | exact HB.out)) hb); clear BK460; clear BK461; clear HB; have BK460 := n0_; have BK461 := n1_; have HB := n2_; clear n0_ n1_ n2_; (try clear hb); (try clear hb2); (try clear hk); (try clear hi)))
        repeat (go_quiet (first | (go_at_call 11; (with_reducible refine (phaetonlaw04_Great.calls a0_0 a0_1 a0_2 a0_3 _ _ l0_4 false _ ?side1 ?side2 A8.out).mono ?_); (case side1 => repeat (first | exact (Kd.C_below HR0_4.out HB.out) | (with_reducible refine Kd.C_alloc ?_ _) | (with_reducible refine Kd.C_drewN ?_ _) | (with_reducible refine Kd.C_drew ?_))); (case side2 => exact HC0_4.out); rintro e w17 ⟨rfl, hb⟩; have n0_ := Aside0.mk (blk_below (g := gb460) (o := .cells #[.bool a0_0, .int .i64 a0_1, .bool a0_2, .int .i64 a0_3, .slice A0_4 l0_4.length c0_4] 24 (0, 0)) (by (with_reducible repeat (first | refine blk_drewN ?_ _ | refine blk_drew ?_ | refine blk_alloc ?_ _)); exact BK460.out) hb); have n1_ := Aside0.mk (blk_below (g := gb461) (o := .cells #[.bool a1_0, .int .i64 a1_1, .bool a1_2, .int .i64 a1_3, .slice A1_4 l1_4.length c1_4] 24 (0, 0)) (by (with_reducible repeat (first | refine blk_drewN ?_ _ | refine blk_drew ?_ | refine blk_alloc ?_ _)); exact BK461.out) hb); have n2_ := Aside0.mk (below_step (by repeat (first | (with_reducible first | exact HB.out | apply below_alloc | apply pw_below_drewN | apply below_drew1 | refine below_set ?_ GE460.out | refine below_set ?_ GE461.out) | exact HB.out)) hb); clear BK460; clear BK461; clear HB; have BK460 := n0_; have BK461 := n1_; have HB := n2_; clear n0_ n1_ n2_; (try clear hb); (try clear hb2); (try clear hk); (try clear hi); have hcz18_0 : w17.cell? ⟨gb461, 0, none⟩ = some (.bool a1_0) := (blk_cell BK461.out 0).trans rfl; have hcz18_1 : w17.cell? ⟨gb461, 1, none⟩ = some (.int .i64 a1_1) := (blk_cell BK461.out 1).trans rfl; have hcz18_2 : w17.cell? ⟨gb461, 2, none⟩ = some (.bool a1_2) := (blk_cell BK461.out 2).trans rfl; have hcz18_3 : w17.cell? ⟨gb461, 3, none⟩ = some (.int .i64 a1_3) := (blk_cell BK461.out 3).trans rfl; have hcz18_4 : w17.cell? ⟨gb461, 4, none⟩ = some (.slice A1_4 l1_4.length c1_4) := (blk_cell BK461.out 4).trans rfl; have hfz18_0 := blk_frozen BK461.out 0; have hfz18_1 := blk_frozen BK461.out 1; have hfz18_2 := blk_frozen BK461.out 2; have hfz18_3 := blk_frozen BK461.out 3; have hfz18_4 := blk_frozen BK461.out 4) | (go_at_call 11; (with_reducible refine (phaetonlaw04_Great.calls a1_0 a1_1 a1_2 a1_3 _ _ l1_4 true _ ?side1 ?side2 A13.out).mono ?_); (case side1 => repeat (first | exact (Kd.C_below HR1_4.out HB.out) | (with_reducible refine Kd.C_alloc ?_ _) | (with_reducible refine Kd.C_drewN ?_ _) | (with_reducible refine Kd.C_drew ?_))); (case side2 => exact HC1_4.out); rintro e w19 ⟨rfl, hb⟩; have n0_ := Aside0.mk (blk_below (g := gb460) (o := .cells #[.bool a0_0, .int .i64 a0_1, .bool a0_2, .int .i64 a0_3, .slice A0_4 l0_4.length c0_4] 24 (0, 0)) (by (with_reducible repeat (first | refine blk_drewN ?_ _ | refine blk_drew ?_ | refine blk_alloc ?_ _)); exact BK460.out) hb); have n1_ := Aside0.mk (blk_below (g := gb461) (o := .cells #[.bool a1_0, .int .i64 a1_1, .bool a1_2, .int .i64 a1_3, .slice A1_4 l1_4.length c1_4] 24 (0, 0)) (by (with_reducible repeat (first | refine blk_drewN ?_ _ | refine blk_drew ?_ | refine blk_alloc ?_ _)); exact BK461.out) hb); have n2_ := Aside0.mk (below_step (by repeat (first | (with_reducible first | exact HB.out | apply below_alloc | apply pw_below_drewN | apply below_drew1 | refine below_set ?_ GE460.out | refine below_set ?_ GE461.out) | exact HB.out)) hb); clear BK460; clear BK461; clear HB; have BK460 := n0_; have BK461 := n1_; have HB := n2_; clear n0_ n1_ n2_; (try clear hb); (try clear hb2); (try clear hk); (try clear hi))); try go_wp2_with (first | (go_at_call 11; (with_reducible refine (phaetonlaw04_Great.calls a0_0 a0_1 a0_2 a0_3 _ _ l0_4 false _ ?side1 ?side2 A8.out).mono ?_); (case side1 => repeat (first | exact (Kd.C_below HR0_4.out HB.out) | (with_reducible refine Kd.C_alloc ?_ _) | (with_reducible refine Kd.C_drewN ?_ _) | (with_reducible refine Kd.C_drew ?_))); (case side2 => exact HC0_4.out); rintro e w17 ⟨rfl, hb⟩; have n0_ := Aside0.mk (blk_below (g := gb460) (o := .cells #[.bool a0_0, .int .i64 a0_1, .bool a0_2, .int .i64 a0_3, .slice A0_4 l0_4.length c0_4] 24 (0, 0)) (by (with_reducible repeat (first | refine blk_drewN ?_ _ | refine blk_drew ?_ | refine blk_alloc ?_ _)); exact BK460.out) hb); have n1_ := Aside0.mk (blk_below (g := gb461) (o := .cells #[.bool a1_0, .int .i64 a1_1, .bool a1_2, .int .i64 a1_3, .slice A1_4 l1_4.length c1_4] 24 (0, 0)) (by (with_reducible repeat (first | refine blk_drewN ?_ _ | refine blk_drew ?_ | refine blk_alloc ?_ _)); exact BK461.out) hb); have n2_ := Aside0.mk (below_step (by repeat (first | (with_reducible first | exact HB.out | apply below_alloc | apply pw_below_drewN | apply below_drew1 | refine below_set ?_ GE460.out | refine below_set ?_ GE461.out) | exact HB.out)) hb); clear BK460; clear BK461; clear HB; have BK460 := n0_; have BK461 := n1_; have HB := n2_; clear n0_ n1_ n2_; (try clear hb); (try clear hb2); (try clear hk); (try clear hi); have hcz18_0 : w17.cell? ⟨gb461, 0, none⟩ = some (.bool a1_0) := (blk_cell BK461.out 0).trans rfl; have hcz18_1 : w17.cell? ⟨gb461, 1, none⟩ = some (.int .i64 a1_1) := (blk_cell BK461.out 1).trans rfl; have hcz18_2 : w17.cell? ⟨gb461, 2, none⟩ = some (.bool a1_2) := (blk_cell BK461.out 2).trans rfl; have hcz18_3 : w17.cell? ⟨gb461, 3, none⟩ = some (.int .i64 a1_3) := (blk_cell BK461.out 3).trans rfl; have hcz18_4 : w17.cell? ⟨gb461, 4, none⟩ = some (.slice A1_4 l1_4.length c1_4) := (blk_cell BK461.out 4).trans rfl; have hfz18_0 := blk_frozen BK461.out 0; have hfz18_1 := blk_frozen BK461.out 1; have hfz18_2 := blk_frozen BK461.out 2; have hfz18_3 := blk_frozen BK461.out 3; have hfz18_4 := blk_frozen BK461.out 4) | (go_at_call 11; (with_reducible refine (phaetonlaw04_Great.calls a1_0 a1_1 a1_2 a1_3 _ _ l1_4 true _ ?side1 ?side2 A13.out).mono ?_); (case side1 => repeat (first | exact (Kd.C_below HR1_4.out HB.out) | (with_reducible refine Kd.C_alloc ?_ _) | (with_reducible refine Kd.C_drewN ?_ _) | (with_reducible refine Kd.C_drew ?_))); (case side2 => exact HC1_4.out); rintro e w19 ⟨rfl, hb⟩; have n0_ := Aside0.mk (blk_below (g := gb460) (o := .cells #[.bool a0_0, .int .i64 a0_1, .bool a0_2, .int .i64 a0_3, .slice A0_4 l0_4.length c0_4] 24 (0, 0)) (by (with_reducible repeat (first | refine blk_drewN ?_ _ | refine blk_drew ?_ | refine blk_alloc ?_ _)); exact BK460.out) hb); have n1_ := Aside0.mk (blk_below (g := gb461) (o := .cells #[.bool a1_0, .int .i64 a1_1, .bool a1_2, .int .i64 a1_3, .slice A1_4 l1_4.length c1_4] 24 (0, 0)) (by (with_reducible repeat (first | refine blk_drewN ?_ _ | refine blk_drew ?_ | refine blk_alloc ?_ _)); exact BK461.out) hb); have n2_ := Aside0.mk (below_step (by repeat (first | (with_reducible first | exact HB.out | apply below_alloc | apply pw_below_drewN | apply below_drew1 | refine below_set ?_ GE460.out | refine below_set ?_ GE461.out) | exact HB.out)) hb); clear BK460; clear BK461; clear HB; have BK460 := n0_; have BK461 := n1_; have HB := n2_; clear n0_ n1_ n2_; (try clear hb); (try clear hb2); (try clear hk); (try clear hi))))
        go_meet
        case rel => exact ⟨_, (true), (by first | rfl | (simp; done) | (simp [*]; done)), H', ⟨by first | omega | exact Nat.le_refl _⟩, ⟨by (with_reducible repeat (first | refine blk_drewN ?_ _ | refine blk_drew ?_ | refine blk_alloc ?_ _)); exact BK460.out⟩, ⟨by (with_reducible repeat (first | refine blk_drewN ?_ _ | refine blk_drew ?_ | refine blk_alloc ?_ _)); exact BK461.out⟩, ⟨by repeat (first | (with_reducible first | exact HB.out | apply below_alloc | apply pw_below_drewN | apply below_drew1 | refine below_set ?_ GE460.out | refine below_set ?_ GE461.out) | exact HB.out)⟩⟩
      · replace c14 := Bool.eq_false_iff.mpr c14
        subst c14
        have H1 : ((phaetonref04_Right.f k a0_0 a0_1 a0_2 a0_3 l0_4).bind fun t465 => (if t465 = true then ((phaetonref04_Right.f k a1_0 a1_1 a1_2 a1_3 l1_4).bind fun t466 => (phaetonlaw04_FrameRank.j0 k t462 (!t466) a0_0 a0_1 a0_2 a0_3 l0_4 a1_0 a1_1 a1_2 a1_3 l1_4)) else (phaetonlaw04_FrameRank.j0 k t462 true a0_0 a0_1 a0_2 a0_3 l0_4 a1_0 a1_1 a1_2 a1_3 l1_4))) = some r := by rw [if_neg (show ¬ (false = true) by decide)] at H; exact H
        clear H
        have H := H1
        clear H1
        replace H := Option.bind_eq_some_iff.mp H
        obtain ⟨t465, A200, H⟩ := H
        replace H : (if t465 = true then ((phaetonref04_Right.f k a1_0 a1_1 a1_2 a1_3 l1_4).bind fun t466 => (phaetonlaw04_FrameRank.j0 k t462 (!t466) a0_0 a0_1 a0_2 a0_3 l0_4 a1_0 a1_1 a1_2 a1_3 l1_4)) else (phaetonlaw04_FrameRank.j0 k t462 true a0_0 a0_1 a0_2 a0_3 l0_4 a1_0 a1_1 a1_2 a1_3 l1_4)) = some r := H
        have A20 := Aside0.mk A200
        clear A200
        by_cases c21 : t465 = true
        · subst c21
          have H1 : ((phaetonref04_Right.f k a1_0 a1_1 a1_2 a1_3 l1_4).bind fun t466 => (phaetonlaw04_FrameRank.j0 k t462 (!t466) a0_0 a0_1 a0_2 a0_3 l0_4 a1_0 a1_1 a1_2 a1_3 l1_4)) = some r := by rw [if_pos rfl] at H; exact H
          clear H
          have H := H1
          clear H1
          replace H := Option.bind_eq_some_iff.mp H
          obtain ⟨t466, A220, H⟩ := H
          replace H : (phaetonlaw04_FrameRank.j0 k t462 (!t466) a0_0 a0_1 a0_2 a0_3 l0_4 a1_0 a1_1 a1_2 a1_3 l1_4) = some r := H
          have A22 := Aside0.mk A220
          clear A220
          have H' := Aside0.mk H
          clear H
          have hnb23 := NB460_461.out
          have hnc23 := NB461_460.out
          have hcz24_0 : w7.cell? ⟨gb460, 0, none⟩ = some (.bool a0_0) := (blk_cell BK460.out 0).trans rfl
          have hcz24_1 : w7.cell? ⟨gb460, 1, none⟩ = some (.int .i64 a0_1) := (blk_cell BK460.out 1).trans rfl
          have hcz24_2 : w7.cell? ⟨gb460, 2, none⟩ = some (.bool a0_2) := (blk_cell BK460.out 2).trans rfl
          have hcz24_3 : w7.cell? ⟨gb460, 3, none⟩ = some (.int .i64 a0_3) := (blk_cell BK460.out 3).trans rfl
          have hcz24_4 : w7.cell? ⟨gb460, 4, none⟩ = some (.slice A0_4 l0_4.length c0_4) := (blk_cell BK460.out 4).trans rfl
          have hfz24_0 := blk_frozen BK460.out 0
          have hfz24_1 := blk_frozen BK460.out 1
          have hfz24_2 := blk_frozen BK460.out 2
          have hfz24_3 := blk_frozen BK460.out 3
          have hfz24_4 := blk_frozen BK460.out 4
          go_wp2_with (first | ((with_reducible refine gate_store (t := 24) (p := 3) rfl ?_); refine HW.store_box2 rfl rfl 24 _ _ rfl rfl rfl BK461.out rfl (by kernel_rfl) (by intro q hq; simp only [List.mem_cons, List.not_mem_nil, or_false] at hq; rcases hq with rfl | rfl | rfl | rfl | rfl <;> rfl) ?_; intro w1_ hw1_ hk1_; simp only [List.toList_toArray, World.setCells, Nat.zero_add, Nat.reduceAdd] at hw1_; subst hw1_; have hcb461_0 := (blk_cell hk1_ 0).trans rfl; have hfb461_0 := blk_frozen hk1_ 0; have hcb461_1 := (blk_cell hk1_ 1).trans rfl; have hfb461_1 := blk_frozen hk1_ 1; have hcb461_2 := (blk_cell hk1_ 2).trans rfl; have hfb461_2 := blk_frozen hk1_ 2; have hcb461_3 := (blk_cell hk1_ 3).trans rfl; have hfb461_3 := blk_frozen hk1_ 3; have hcb461_4 := (blk_cell hk1_ 4).trans rfl; have hfb461_4 := blk_frozen hk1_ 4; clear hk1_) | ((with_reducible refine gate_store (t := 24) (p := 2) rfl ?_); refine HW.store_box2 rfl rfl 24 _ _ rfl rfl rfl BK460.out rfl (by kernel_rfl) (by intro q hq; simp only [List.mem_cons, List.not_mem_nil, or_false] at hq; rcases hq with rfl | rfl | rfl | rfl | rfl <;> rfl) ?_; intro w1_ hw1_ hk1_; simp only [List.toList_toArray, World.setCells, Nat.zero_add, Nat.reduceAdd] at hw1_; subst hw1_; have hcb460_0 := (blk_cell hk1_ 0).trans rfl; have hfb460_0 := blk_frozen hk1_ 0; have hcb460_1 := (blk_cell hk1_ 1).trans rfl; have hfb460_1 := blk_frozen hk1_ 1; have hcb460_2 := (blk_cell hk1_ 2).trans rfl; have hfb460_2 := blk_frozen hk1_ 2; have hcb460_3 := (blk_cell hk1_ 3).trans rfl; have hfb460_3 := blk_frozen hk1_ 3; have hcb460_4 := (blk_cell hk1_ 4).trans rfl; have hfb460_4 := blk_frozen hk1_ 4; clear hk1_) | (go_at_call 11; (with_reducible refine (phaetonlaw04_Great.calls a0_0 a0_1 a0_2 a0_3 _ _ l0_4 false _ ?side1 ?side2 A8.out).mono ?_); (case side1 => repeat (first | exact (Kd.C_below HR0_4.out HB.out) | (with_reducible refine Kd.C_alloc ?_ _) | (with_reducible refine Kd.C_drewN ?_ _) | (with_reducible refine Kd.C_drew ?_))); (case side2 => exact HC0_4.out); rintro e w25 ⟨rfl, hb⟩; have n0_ := Aside0.mk (blk_below (g := gb460) (o := .cells #[.bool a0_0, .int .i64 a0_1, .bool a0_2, .int .i64 a0_3, .slice A0_4 l0_4.length c0_4] 24 (0, 0)) (by (with_reducible repeat (first | refine blk_drewN ?_ _ | refine blk_drew ?_ | refine blk_alloc ?_ _)); exact BK460.out) hb); have n1_ := Aside0.mk (blk_below (g := gb461) (o := .cells #[.bool a1_0, .int .i64 a1_1, .bool a1_2, .int .i64 a1_3, .slice A1_4 l1_4.length c1_4] 24 (0, 0)) (by (with_reducible repeat (first | refine blk_drewN ?_ _ | refine blk_drew ?_ | refine blk_alloc ?_ _)); exact BK461.out) hb); have n2_ := Aside0.mk (below_step (by repeat (first | (with_reducible first | exact HB.out | apply below_alloc | apply pw_below_drewN | apply below_drew1 | refine below_set ?_ GE460.out | refine below_set ?_ GE461.out) | exact HB.out)) hb); clear BK460; clear BK461; clear HB; have BK460 := n0_; have BK461 := n1_; have HB := n2_; clear n0_ n1_ n2_; (try clear hb); (try clear hb2); (try clear hk); (try clear hi); have hcz26_0 : w25.cell? ⟨gb461, 0, none⟩ = some (.bool a1_0) := (blk_cell BK461.out 0).trans rfl; have hcz26_1 : w25.cell? ⟨gb461, 1, none⟩ = some (.int .i64 a1_1) := (blk_cell BK461.out 1).trans rfl; have hcz26_2 : w25.cell? ⟨gb461, 2, none⟩ = some (.bool a1_2) := (blk_cell BK461.out 2).trans rfl; have hcz26_3 : w25.cell? ⟨gb461, 3, none⟩ = some (.int .i64 a1_3) := (blk_cell BK461.out 3).trans rfl; have hcz26_4 : w25.cell? ⟨gb461, 4, none⟩ = some (.slice A1_4 l1_4.length c1_4) := (blk_cell BK461.out 4).trans rfl; have hfz26_0 := blk_frozen BK461.out 0; have hfz26_1 := blk_frozen BK461.out 1; have hfz26_2 := blk_frozen BK461.out 2; have hfz26_3 := blk_frozen BK461.out 3; have hfz26_4 := blk_frozen BK461.out 4) | (go_at_call 11; (with_reducible refine (phaetonlaw04_Great.calls a1_0 a1_1 a1_2 a1_3 _ _ l1_4 false _ ?side1 ?side2 A13.out).mono ?_); (case side1 => repeat (first | exact (Kd.C_below HR1_4.out HB.out) | (with_reducible refine Kd.C_alloc ?_ _) | (with_reducible refine Kd.C_drewN ?_ _) | (with_reducible refine Kd.C_drew ?_))); (case side2 => exact HC1_4.out); rintro e w27 ⟨rfl, hb⟩; have n0_ := Aside0.mk (blk_below (g := gb460) (o := .cells #[.bool a0_0, .int .i64 a0_1, .bool a0_2, .int .i64 a0_3, .slice A0_4 l0_4.length c0_4] 24 (0, 0)) (by (with_reducible repeat (first | refine blk_drewN ?_ _ | refine blk_drew ?_ | refine blk_alloc ?_ _)); exact BK460.out) hb); have n1_ := Aside0.mk (blk_below (g := gb461) (o := .cells #[.bool a1_0, .int .i64 a1_1, .bool a1_2, .int .i64 a1_3, .slice A1_4 l1_4.length c1_4] 24 (0, 0)) (by (with_reducible repeat (first | refine blk_drewN ?_ _ | refine blk_drew ?_ | refine blk_alloc ?_ _)); exact BK461.out) hb); have n2_ := Aside0.mk (below_step (by repeat (first | (with_reducible first | exact HB.out | apply below_alloc | apply pw_below_drewN | apply below_drew1 | refine below_set ?_ GE460.out | refine below_set ?_ GE461.out) | exact HB.out)) hb); clear BK460; clear BK461; clear HB; have BK460 := n0_; have BK461 := n1_; have HB := n2_; clear n0_ n1_ n2_; (try clear hb); (try clear hb2); (try clear hk); (try clear hi); have hcz28_0 : w27.cell? ⟨gb460, 0, none⟩ = some (.bool a0_0) := (blk_cell BK460.out 0).trans rfl; have hcz28_1 : w27.cell? ⟨gb460, 1, none⟩ = some (.int .i64 a0_1) := (blk_cell BK460.out 1).trans rfl; have hcz28_2 : w27.cell? ⟨gb460, 2, none⟩ = some (.bool a0_2) := (blk_cell BK460.out 2).trans rfl; have hcz28_3 : w27.cell? ⟨gb460, 3, none⟩ = some (.int .i64 a0_3) := (blk_cell BK460.out 3).trans rfl; have hcz28_4 : w27.cell? ⟨gb460, 4, none⟩ = some (.slice A0_4 l0_4.length c0_4) := (blk_cell BK460.out 4).trans rfl; have hfz28_0 := blk_frozen BK460.out 0; have hfz28_1 := blk_frozen BK460.out 1; have hfz28_2 := blk_frozen BK460.out 2; have hfz28_3 := blk_frozen BK460.out 3; have hfz28_4 := blk_frozen BK460.out 4) | (go_at_call 13; (with_reducible refine (phaetonref04_Right.calls k a0_0 a0_1 a0_2 a0_3 _ _ l0_4 true _ ?side1 ?side2 A20.out).mono ?_); (case side1 => repeat (first | exact (Kd.C_below HR0_4.out HB.out) | (with_reducible refine Kd.C_alloc ?_ _) | (with_reducible refine Kd.C_drewN ?_ _) | (with_reducible refine Kd.C_drew ?_))); (case side2 => exact HC0_4.out); rintro e w29 ⟨rfl, hb⟩; have n0_ := Aside0.mk (blk_below (g := gb460) (o := .cells #[.bool a0_0, .int .i64 a0_1, .bool a0_2, .int .i64 a0_3, .slice A0_4 l0_4.length c0_4] 24 (0, 0)) (by (with_reducible repeat (first | refine blk_drewN ?_ _ | refine blk_drew ?_ | refine blk_alloc ?_ _)); exact BK460.out) hb); have n1_ := Aside0.mk (blk_below (g := gb461) (o := .cells #[.bool a1_0, .int .i64 a1_1, .bool a1_2, .int .i64 a1_3, .slice A1_4 l1_4.length c1_4] 24 (0, 0)) (by (with_reducible repeat (first | refine blk_drewN ?_ _ | refine blk_drew ?_ | refine blk_alloc ?_ _)); exact BK461.out) hb); have n2_ := Aside0.mk (below_step (by repeat (first | (with_reducible first | exact HB.out | apply below_alloc | apply pw_below_drewN | apply below_drew1 | refine below_set ?_ GE460.out | refine below_set ?_ GE461.out) | exact HB.out)) hb); clear BK460; clear BK461; clear HB; have BK460 := n0_; have BK461 := n1_; have HB := n2_; clear n0_ n1_ n2_; (try clear hb); (try clear hb2); (try clear hk); (try clear hi); have hcz30_0 : w29.cell? ⟨gb461, 0, none⟩ = some (.bool a1_0) := (blk_cell BK461.out 0).trans rfl; have hcz30_1 : w29.cell? ⟨gb461, 1, none⟩ = some (.int .i64 a1_1) := (blk_cell BK461.out 1).trans rfl; have hcz30_2 : w29.cell? ⟨gb461, 2, none⟩ = some (.bool a1_2) := (blk_cell BK461.out 2).trans rfl; have hcz30_3 : w29.cell? ⟨gb461, 3, none⟩ = some (.int .i64 a1_3) := (blk_cell BK461.out 3).trans rfl; have hcz30_4 : w29.cell? ⟨gb461, 4, none⟩ = some (.slice A1_4 l1_4.length c1_4) := (blk_cell BK461.out 4).trans rfl; have hfz30_0 := blk_frozen BK461.out 0; have hfz30_1 := blk_frozen BK461.out 1; have hfz30_2 := blk_frozen BK461.out 2; have hfz30_3 := blk_frozen BK461.out 3; have hfz30_4 := blk_frozen BK461.out 4) | (go_at_call 13; (with_reducible refine (phaetonref04_Right.calls k a1_0 a1_1 a1_2 a1_3 _ _ l1_4 t466 _ ?side1 ?side2 A22.out).mono ?_); (case side1 => repeat (first | exact (Kd.C_below HR1_4.out HB.out) | (with_reducible refine Kd.C_alloc ?_ _) | (with_reducible refine Kd.C_drewN ?_ _) | (with_reducible refine Kd.C_drew ?_))); (case side2 => exact HC1_4.out); rintro e w31 ⟨rfl, hb⟩; have n0_ := Aside0.mk (blk_below (g := gb460) (o := .cells #[.bool a0_0, .int .i64 a0_1, .bool a0_2, .int .i64 a0_3, .slice A0_4 l0_4.length c0_4] 24 (0, 0)) (by (with_reducible repeat (first | refine blk_drewN ?_ _ | refine blk_drew ?_ | refine blk_alloc ?_ _)); exact BK460.out) hb); have n1_ := Aside0.mk (blk_below (g := gb461) (o := .cells #[.bool a1_0, .int .i64 a1_1, .bool a1_2, .int .i64 a1_3, .slice A1_4 l1_4.length c1_4] 24 (0, 0)) (by (with_reducible repeat (first | refine blk_drewN ?_ _ | refine blk_drew ?_ | refine blk_alloc ?_ _)); exact BK461.out) hb); have n2_ := Aside0.mk (below_step (by repeat (first | (with_reducible first | exact HB.out | apply below_alloc | apply pw_below_drewN | apply below_drew1 | refine below_set ?_ GE460.out | refine below_set ?_ GE461.out) | exact HB.out)) hb); clear BK460; clear BK461; clear HB; have BK460 := n0_; have BK461 := n1_; have HB := n2_; clear n0_ n1_ n2_; (try clear hb); (try clear hb2); (try clear hk); (try clear hi)))
          repeat (go_quiet (first | (go_at_call 11; (with_reducible refine (phaetonlaw04_Great.calls a0_0 a0_1 a0_2 a0_3 _ _ l0_4 false _ ?side1 ?side2 A8.out).mono ?_); (case side1 => repeat (first | exact (Kd.C_below HR0_4.out HB.out) | (with_reducible refine Kd.C_alloc ?_ _) | (with_reducible refine Kd.C_drewN ?_ _) | (with_reducible refine Kd.C_drew ?_))); (case side2 => exact HC0_4.out); rintro e w25 ⟨rfl, hb⟩; have n0_ := Aside0.mk (blk_below (g := gb460) (o := .cells #[.bool a0_0, .int .i64 a0_1, .bool a0_2, .int .i64 a0_3, .slice A0_4 l0_4.length c0_4] 24 (0, 0)) (by (with_reducible repeat (first | refine blk_drewN ?_ _ | refine blk_drew ?_ | refine blk_alloc ?_ _)); exact BK460.out) hb); have n1_ := Aside0.mk (blk_below (g := gb461) (o := .cells #[.bool a1_0, .int .i64 a1_1, .bool a1_2, .int .i64 a1_3, .slice A1_4 l1_4.length c1_4] 24 (0, 0)) (by (with_reducible repeat (first | refine blk_drewN ?_ _ | refine blk_drew ?_ | refine blk_alloc ?_ _)); exact BK461.out) hb); have n2_ := Aside0.mk (below_step (by repeat (first | (with_reducible first | exact HB.out | apply below_alloc | apply pw_below_drewN | apply below_drew1 | refine below_set ?_ GE460.out | refine below_set ?_ GE461.out) | exact HB.out)) hb); clear BK460; clear BK461; clear HB; have BK460 := n0_; have BK461 := n1_; have HB := n2_; clear n0_ n1_ n2_; (try clear hb); (try clear hb2); (try clear hk); (try clear hi); have hcz26_0 : w25.cell? ⟨gb461, 0, none⟩ = some (.bool a1_0) := (blk_cell BK461.out 0).trans rfl; have hcz26_1 : w25.cell? ⟨gb461, 1, none⟩ = some (.int .i64 a1_1) := (blk_cell BK461.out 1).trans rfl; have hcz26_2 : w25.cell? ⟨gb461, 2, none⟩ = some (.bool a1_2) := (blk_cell BK461.out 2).trans rfl; have hcz26_3 : w25.cell? ⟨gb461, 3, none⟩ = some (.int .i64 a1_3) := (blk_cell BK461.out 3).trans rfl; have hcz26_4 : w25.cell? ⟨gb461, 4, none⟩ = some (.slice A1_4 l1_4.length c1_4) := (blk_cell BK461.out 4).trans rfl; have hfz26_0 := blk_frozen BK461.out 0; have hfz26_1 := blk_frozen BK461.out 1; have hfz26_2 := blk_frozen BK461.out 2; have hfz26_3 := blk_frozen BK461.out 3; have hfz26_4 := blk_frozen BK461.out 4) | (go_at_call 11; (with_reducible refine (phaetonlaw04_Great.calls a1_0 a1_1 a1_2 a1_3 _ _ l1_4 false _ ?side1 ?side2 A13.out).mono ?_); (case side1 => repeat (first | exact (Kd.C_below HR1_4.out HB.out) | (with_reducible refine Kd.C_alloc ?_ _) | (with_reducible refine Kd.C_drewN ?_ _) | (with_reducible refine Kd.C_drew ?_))); (case side2 => exact HC1_4.out); rintro e w27 ⟨rfl, hb⟩; have n0_ := Aside0.mk (blk_below (g := gb460) (o := .cells #[.bool a0_0, .int .i64 a0_1, .bool a0_2, .int .i64 a0_3, .slice A0_4 l0_4.length c0_4] 24 (0, 0)) (by (with_reducible repeat (first | refine blk_drewN ?_ _ | refine blk_drew ?_ | refine blk_alloc ?_ _)); exact BK460.out) hb); have n1_ := Aside0.mk (blk_below (g := gb461) (o := .cells #[.bool a1_0, .int .i64 a1_1, .bool a1_2, .int .i64 a1_3, .slice A1_4 l1_4.length c1_4] 24 (0, 0)) (by (with_reducible repeat (first | refine blk_drewN ?_ _ | refine blk_drew ?_ | refine blk_alloc ?_ _)); exact BK461.out) hb); have n2_ := Aside0.mk (below_step (by repeat (first | (with_reducible first | exact HB.out | apply below_alloc | apply pw_below_drewN | apply below_drew1 | refine below_set ?_ GE460.out | refine below_set ?_ GE461.out) | exact HB.out)) hb); clear BK460; clear BK461; clear HB; have BK460 := n0_; have BK461 := n1_; have HB := n2_; clear n0_ n1_ n2_; (try clear hb); (try clear hb2); (try clear hk); (try clear hi); have hcz28_0 : w27.cell? ⟨gb460, 0, none⟩ = some (.bool a0_0) := (blk_cell BK460.out 0).trans rfl; have hcz28_1 : w27.cell? ⟨gb460, 1, none⟩ = some (.int .i64 a0_1) := (blk_cell BK460.out 1).trans rfl; have hcz28_2 : w27.cell? ⟨gb460, 2, none⟩ = some (.bool a0_2) := (blk_cell BK460.out 2).trans rfl; have hcz28_3 : w27.cell? ⟨gb460, 3, none⟩ = some (.int .i64 a0_3) := (blk_cell BK460.out 3).trans rfl; have hcz28_4 : w27.cell? ⟨gb460, 4, none⟩ = some (.slice A0_4 l0_4.length c0_4) := (blk_cell BK460.out 4).trans rfl; have hfz28_0 := blk_frozen BK460.out 0; have hfz28_1 := blk_frozen BK460.out 1; have hfz28_2 := blk_frozen BK460.out 2; have hfz28_3 := blk_frozen BK460.out 3; have hfz28_4 := blk_frozen BK460.out 4) | (go_at_call 13; (with_reducible refine (phaetonref04_Right.calls k a0_0 a0_1 a0_2 a0_3 _ _ l0_4 true _ ?side1 ?side2 A20.out).mono ?_); (case side1 => repeat (first | exact (Kd.C_below HR0_4.out HB.out) | (with_reducible refine Kd.C_alloc ?_ _) | (with_reducible refine Kd.C_drewN ?_ _) | (with_reducible refine Kd.C_drew ?_))); (case side2 => exact HC0_4.out); rintro e w29 ⟨rfl, hb⟩; have n0_ := Aside0.mk (blk_below (g := gb460) (o := .cells #[.bool a0_0, .int .i64 a0_1, .bool a0_2, .int .i64 a0_3, .slice A0_4 l0_4.length c0_4] 24 (0, 0)) (by (with_reducible repeat (first | refine blk_drewN ?_ _ | refine blk_drew ?_ | refine blk_alloc ?_ _)); exact BK460.out) hb); have n1_ := Aside0.mk (blk_below (g := gb461) (o := .cells #[.bool a1_0, .int .i64 a1_1, .bool a1_2, .int .i64 a1_3, .slice A1_4 l1_4.length c1_4] 24 (0, 0)) (by (with_reducible repeat (first | refine blk_drewN ?_ _ | refine blk_drew ?_ | refine blk_alloc ?_ _)); exact BK461.out) hb); have n2_ := Aside0.mk (below_step (by repeat (first | (with_reducible first | exact HB.out | apply below_alloc | apply pw_below_drewN | apply below_drew1 | refine below_set ?_ GE460.out | refine below_set ?_ GE461.out) | exact HB.out)) hb); clear BK460; clear BK461; clear HB; have BK460 := n0_; have BK461 := n1_; have HB := n2_; clear n0_ n1_ n2_; (try clear hb); (try clear hb2); (try clear hk); (try clear hi); have hcz30_0 : w29.cell? ⟨gb461, 0, none⟩ = some (.bool a1_0) := (blk_cell BK461.out 0).trans rfl; have hcz30_1 : w29.cell? ⟨gb461, 1, none⟩ = some (.int .i64 a1_1) := (blk_cell BK461.out 1).trans rfl; have hcz30_2 : w29.cell? ⟨gb461, 2, none⟩ = some (.bool a1_2) := (blk_cell BK461.out 2).trans rfl; have hcz30_3 : w29.cell? ⟨gb461, 3, none⟩ = some (.int .i64 a1_3) := (blk_cell BK461.out 3).trans rfl; have hcz30_4 : w29.cell? ⟨gb461, 4, none⟩ = some (.slice A1_4 l1_4.length c1_4) := (blk_cell BK461.out 4).trans rfl; have hfz30_0 := blk_frozen BK461.out 0; have hfz30_1 := blk_frozen BK461.out 1; have hfz30_2 := blk_frozen BK461.out 2; have hfz30_3 := blk_frozen BK461.out 3; have hfz30_4 := blk_frozen BK461.out 4) | (go_at_call 13; (with_reducible refine (phaetonref04_Right.calls k a1_0 a1_1 a1_2 a1_3 _ _ l1_4 t466 _ ?side1 ?side2 A22.out).mono ?_); (case side1 => repeat (first | exact (Kd.C_below HR1_4.out HB.out) | (with_reducible refine Kd.C_alloc ?_ _) | (with_reducible refine Kd.C_drewN ?_ _) | (with_reducible refine Kd.C_drew ?_))); (case side2 => exact HC1_4.out); rintro e w31 ⟨rfl, hb⟩; have n0_ := Aside0.mk (blk_below (g := gb460) (o := .cells #[.bool a0_0, .int .i64 a0_1, .bool a0_2, .int .i64 a0_3, .slice A0_4 l0_4.length c0_4] 24 (0, 0)) (by (with_reducible repeat (first | refine blk_drewN ?_ _ | refine blk_drew ?_ | refine blk_alloc ?_ _)); exact BK460.out) hb); have n1_ := Aside0.mk (blk_below (g := gb461) (o := .cells #[.bool a1_0, .int .i64 a1_1, .bool a1_2, .int .i64 a1_3, .slice A1_4 l1_4.length c1_4] 24 (0, 0)) (by (with_reducible repeat (first | refine blk_drewN ?_ _ | refine blk_drew ?_ | refine blk_alloc ?_ _)); exact BK461.out) hb); have n2_ := Aside0.mk (below_step (by repeat (first | (with_reducible first | exact HB.out | apply below_alloc | apply pw_below_drewN | apply below_drew1 | refine below_set ?_ GE460.out | refine below_set ?_ GE461.out) | exact HB.out)) hb); clear BK460; clear BK461; clear HB; have BK460 := n0_; have BK461 := n1_; have HB := n2_; clear n0_ n1_ n2_; (try clear hb); (try clear hb2); (try clear hk); (try clear hi))); try go_wp2_with (first | (go_at_call 11; (with_reducible refine (phaetonlaw04_Great.calls a0_0 a0_1 a0_2 a0_3 _ _ l0_4 false _ ?side1 ?side2 A8.out).mono ?_); (case side1 => repeat (first | exact (Kd.C_below HR0_4.out HB.out) | (with_reducible refine Kd.C_alloc ?_ _) | (with_reducible refine Kd.C_drewN ?_ _) | (with_reducible refine Kd.C_drew ?_))); (case side2 => exact HC0_4.out); rintro e w25 ⟨rfl, hb⟩; have n0_ := Aside0.mk (blk_below (g := gb460) (o := .cells #[.bool a0_0, .int .i64 a0_1, .bool a0_2, .int .i64 a0_3, .slice A0_4 l0_4.length c0_4] 24 (0, 0)) (by (with_reducible repeat (first | refine blk_drewN ?_ _ | refine blk_drew ?_ | refine blk_alloc ?_ _)); exact BK460.out) hb); have n1_ := Aside0.mk (blk_below (g := gb461) (o := .cells #[.bool a1_0, .int .i64 a1_1, .bool a1_2, .int .i64 a1_3, .slice A1_4 l1_4.length c1_4] 24 (0, 0)) (by (with_reducible repeat (first | refine blk_drewN ?_ _ | refine blk_drew ?_ | refine blk_alloc ?_ _)); exact BK461.out) hb); have n2_ := Aside0.mk (below_step (by repeat (first | (with_reducible first | exact HB.out | apply below_alloc | apply pw_below_drewN | apply below_drew1 | refine below_set ?_ GE460.out | refine below_set ?_ GE461.out) | exact HB.out)) hb); clear BK460; clear BK461; clear HB; have BK460 := n0_; have BK461 := n1_; have HB := n2_; clear n0_ n1_ n2_; (try clear hb); (try clear hb2); (try clear hk); (try clear hi); have hcz26_0 : w25.cell? ⟨gb461, 0, none⟩ = some (.bool a1_0) := (blk_cell BK461.out 0).trans rfl; have hcz26_1 : w25.cell? ⟨gb461, 1, none⟩ = some (.int .i64 a1_1) := (blk_cell BK461.out 1).trans rfl; have hcz26_2 : w25.cell? ⟨gb461, 2, none⟩ = some (.bool a1_2) := (blk_cell BK461.out 2).trans rfl; have hcz26_3 : w25.cell? ⟨gb461, 3, none⟩ = some (.int .i64 a1_3) := (blk_cell BK461.out 3).trans rfl; have hcz26_4 : w25.cell? ⟨gb461, 4, none⟩ = some (.slice A1_4 l1_4.length c1_4) := (blk_cell BK461.out 4).trans rfl; have hfz26_0 := blk_frozen BK461.out 0; have hfz26_1 := blk_frozen BK461.out 1; have hfz26_2 := blk_frozen BK461.out 2; have hfz26_3 := blk_frozen BK461.out 3; have hfz26_4 := blk_frozen BK461.out 4) | (go_at_call 11; (with_reducible refine (phaetonlaw04_Great.calls a1_0 a1_1 a1_2 a1_3 _ _ l1_4 false _ ?side1 ?side2 A13.out).mono ?_); (case side1 => repeat (first | exact (Kd.C_below HR1_4.out HB.out) | (with_reducible refine Kd.C_alloc ?_ _) | (with_reducible refine Kd.C_drewN ?_ _) | (with_reducible refine Kd.C_drew ?_))); (case side2 => exact HC1_4.out); rintro e w27 ⟨rfl, hb⟩; have n0_ := Aside0.mk (blk_below (g := gb460) (o := .cells #[.bool a0_0, .int .i64 a0_1, .bool a0_2, .int .i64 a0_3, .slice A0_4 l0_4.length c0_4] 24 (0, 0)) (by (with_reducible repeat (first | refine blk_drewN ?_ _ | refine blk_drew ?_ | refine blk_alloc ?_ _)); exact BK460.out) hb); have n1_ := Aside0.mk (blk_below (g := gb461) (o := .cells #[.bool a1_0, .int .i64 a1_1, .bool a1_2, .int .i64 a1_3, .slice A1_4 l1_4.length c1_4] 24 (0, 0)) (by (with_reducible repeat (first | refine blk_drewN ?_ _ | refine blk_drew ?_ | refine blk_alloc ?_ _)); exact BK461.out) hb); have n2_ := Aside0.mk (below_step (by repeat (first | (with_reducible first | exact HB.out | apply below_alloc | apply pw_below_drewN | apply below_drew1 | refine below_set ?_ GE460.out | refine below_set ?_ GE461.out) | exact HB.out)) hb); clear BK460; clear BK461; clear HB; have BK460 := n0_; have BK461 := n1_; have HB := n2_; clear n0_ n1_ n2_; (try clear hb); (try clear hb2); (try clear hk); (try clear hi); have hcz28_0 : w27.cell? ⟨gb460, 0, none⟩ = some (.bool a0_0) := (blk_cell BK460.out 0).trans rfl; have hcz28_1 : w27.cell? ⟨gb460, 1, none⟩ = some (.int .i64 a0_1) := (blk_cell BK460.out 1).trans rfl; have hcz28_2 : w27.cell? ⟨gb460, 2, none⟩ = some (.bool a0_2) := (blk_cell BK460.out 2).trans rfl; have hcz28_3 : w27.cell? ⟨gb460, 3, none⟩ = some (.int .i64 a0_3) := (blk_cell BK460.out 3).trans rfl; have hcz28_4 : w27.cell? ⟨gb460, 4, none⟩ = some (.slice A0_4 l0_4.length c0_4) := (blk_cell BK460.out 4).trans rfl; have hfz28_0 := blk_frozen BK460.out 0; have hfz28_1 := blk_frozen BK460.out 1; have hfz28_2 := blk_frozen BK460.out 2; have hfz28_3 := blk_frozen BK460.out 3; have hfz28_4 := blk_frozen BK460.out 4) | (go_at_call 13; (with_reducible refine (phaetonref04_Right.calls k a0_0 a0_1 a0_2 a0_3 _ _ l0_4 true _ ?side1 ?side2 A20.out).mono ?_); (case side1 => repeat (first | exact (Kd.C_below HR0_4.out HB.out) | (with_reducible refine Kd.C_alloc ?_ _) | (with_reducible refine Kd.C_drewN ?_ _) | (with_reducible refine Kd.C_drew ?_))); (case side2 => exact HC0_4.out); rintro e w29 ⟨rfl, hb⟩; have n0_ := Aside0.mk (blk_below (g := gb460) (o := .cells #[.bool a0_0, .int .i64 a0_1, .bool a0_2, .int .i64 a0_3, .slice A0_4 l0_4.length c0_4] 24 (0, 0)) (by (with_reducible repeat (first | refine blk_drewN ?_ _ | refine blk_drew ?_ | refine blk_alloc ?_ _)); exact BK460.out) hb); have n1_ := Aside0.mk (blk_below (g := gb461) (o := .cells #[.bool a1_0, .int .i64 a1_1, .bool a1_2, .int .i64 a1_3, .slice A1_4 l1_4.length c1_4] 24 (0, 0)) (by (with_reducible repeat (first | refine blk_drewN ?_ _ | refine blk_drew ?_ | refine blk_alloc ?_ _)); exact BK461.out) hb); have n2_ := Aside0.mk (below_step (by repeat (first | (with_reducible first | exact HB.out | apply below_alloc | apply pw_below_drewN | apply below_drew1 | refine below_set ?_ GE460.out | refine below_set ?_ GE461.out) | exact HB.out)) hb); clear BK460; clear BK461; clear HB; have BK460 := n0_; have BK461 := n1_; have HB := n2_; clear n0_ n1_ n2_; (try clear hb); (try clear hb2); (try clear hk); (try clear hi); have hcz30_0 : w29.cell? ⟨gb461, 0, none⟩ = some (.bool a1_0) := (blk_cell BK461.out 0).trans rfl; have hcz30_1 : w29.cell? ⟨gb461, 1, none⟩ = some (.int .i64 a1_1) := (blk_cell BK461.out 1).trans rfl; have hcz30_2 : w29.cell? ⟨gb461, 2, none⟩ = some (.bool a1_2) := (blk_cell BK461.out 2).trans rfl; have hcz30_3 : w29.cell? ⟨gb461, 3, none⟩ = some (.int .i64 a1_3) := (blk_cell BK461.out 3).trans rfl; have hcz30_4 : w29.cell? ⟨gb461, 4, none⟩ = some (.slice A1_4 l1_4.length c1_4) := (blk_cell BK461.out 4).trans rfl; have hfz30_0 := blk_frozen BK461.out 0; have hfz30_1 := blk_frozen BK461.out 1; have hfz30_2 := blk_frozen BK461.out 2; have hfz30_3 := blk_frozen BK461.out 3; have hfz30_4 := blk_frozen BK461.out 4) | (go_at_call 13; (with_reducible refine (phaetonref04_Right.calls k a1_0 a1_1 a1_2 a1_3 _ _ l1_4 t466 _ ?side1 ?side2 A22.out).mono ?_); (case side1 => repeat (first | exact (Kd.C_below HR1_4.out HB.out) | (with_reducible refine Kd.C_alloc ?_ _) | (with_reducible refine Kd.C_drewN ?_ _) | (with_reducible refine Kd.C_drew ?_))); (case side2 => exact HC1_4.out); rintro e w31 ⟨rfl, hb⟩; have n0_ := Aside0.mk (blk_below (g := gb460) (o := .cells #[.bool a0_0, .int .i64 a0_1, .bool a0_2, .int .i64 a0_3, .slice A0_4 l0_4.length c0_4] 24 (0, 0)) (by (with_reducible repeat (first | refine blk_drewN ?_ _ | refine blk_drew ?_ | refine blk_alloc ?_ _)); exact BK460.out) hb); have n1_ := Aside0.mk (blk_below (g := gb461) (o := .cells #[.bool a1_0, .int .i64 a1_1, .bool a1_2, .int .i64 a1_3, .slice A1_4 l1_4.length c1_4] 24 (0, 0)) (by (with_reducible repeat (first | refine blk_drewN ?_ _ | refine blk_drew ?_ | refine blk_alloc ?_ _)); exact BK461.out) hb); have n2_ := Aside0.mk (below_step (by repeat (first | (with_reducible first | exact HB.out | apply below_alloc | apply pw_below_drewN | apply below_drew1 | refine below_set ?_ GE460.out | refine below_set ?_ GE461.out) | exact HB.out)) hb); clear BK460; clear BK461; clear HB; have BK460 := n0_; have BK461 := n1_; have HB := n2_; clear n0_ n1_ n2_; (try clear hb); (try clear hb2); (try clear hk); (try clear hi))))
          go_meet
          case rel => exact ⟨_, (!t466), (by first | rfl | (simp; done) | (simp [*]; done)), H', ⟨by first | omega | exact Nat.le_refl _⟩, ⟨by (with_reducible repeat (first | refine blk_drewN ?_ _ | refine blk_drew ?_ | refine blk_alloc ?_ _)); exact BK460.out⟩, ⟨by (with_reducible repeat (first | refine blk_drewN ?_ _ | refine blk_drew ?_ | refine blk_alloc ?_ _)); exact BK461.out⟩, ⟨by repeat (first | (with_reducible first | exact HB.out | apply below_alloc | apply pw_below_drewN | apply below_drew1 | refine below_set ?_ GE460.out | refine below_set ?_ GE461.out) | exact HB.out)⟩⟩
        · replace c21 := Bool.eq_false_iff.mpr c21
          subst c21
          have H1 : (phaetonlaw04_FrameRank.j0 k t462 true a0_0 a0_1 a0_2 a0_3 l0_4 a1_0 a1_1 a1_2 a1_3 l1_4) = some r := by rw [if_neg (show ¬ (false = true) by decide)] at H; exact H
          clear H
          have H := H1
          clear H1
          have H' := Aside0.mk H
          clear H
          have hnb32 := NB460_461.out
          have hnc32 := NB461_460.out
          have hcz33_0 : w7.cell? ⟨gb460, 0, none⟩ = some (.bool a0_0) := (blk_cell BK460.out 0).trans rfl
          have hcz33_1 : w7.cell? ⟨gb460, 1, none⟩ = some (.int .i64 a0_1) := (blk_cell BK460.out 1).trans rfl
          have hcz33_2 : w7.cell? ⟨gb460, 2, none⟩ = some (.bool a0_2) := (blk_cell BK460.out 2).trans rfl
          have hcz33_3 : w7.cell? ⟨gb460, 3, none⟩ = some (.int .i64 a0_3) := (blk_cell BK460.out 3).trans rfl
          have hcz33_4 : w7.cell? ⟨gb460, 4, none⟩ = some (.slice A0_4 l0_4.length c0_4) := (blk_cell BK460.out 4).trans rfl
          have hfz33_0 := blk_frozen BK460.out 0
          have hfz33_1 := blk_frozen BK460.out 1
          have hfz33_2 := blk_frozen BK460.out 2
          have hfz33_3 := blk_frozen BK460.out 3
          have hfz33_4 := blk_frozen BK460.out 4
          go_wp2_with (first | ((with_reducible refine gate_store (t := 24) (p := 3) rfl ?_); refine HW.store_box2 rfl rfl 24 _ _ rfl rfl rfl BK461.out rfl (by kernel_rfl) (by intro q hq; simp only [List.mem_cons, List.not_mem_nil, or_false] at hq; rcases hq with rfl | rfl | rfl | rfl | rfl <;> rfl) ?_; intro w1_ hw1_ hk1_; simp only [List.toList_toArray, World.setCells, Nat.zero_add, Nat.reduceAdd] at hw1_; subst hw1_; have hcb461_0 := (blk_cell hk1_ 0).trans rfl; have hfb461_0 := blk_frozen hk1_ 0; have hcb461_1 := (blk_cell hk1_ 1).trans rfl; have hfb461_1 := blk_frozen hk1_ 1; have hcb461_2 := (blk_cell hk1_ 2).trans rfl; have hfb461_2 := blk_frozen hk1_ 2; have hcb461_3 := (blk_cell hk1_ 3).trans rfl; have hfb461_3 := blk_frozen hk1_ 3; have hcb461_4 := (blk_cell hk1_ 4).trans rfl; have hfb461_4 := blk_frozen hk1_ 4; clear hk1_) | ((with_reducible refine gate_store (t := 24) (p := 2) rfl ?_); refine HW.store_box2 rfl rfl 24 _ _ rfl rfl rfl BK460.out rfl (by kernel_rfl) (by intro q hq; simp only [List.mem_cons, List.not_mem_nil, or_false] at hq; rcases hq with rfl | rfl | rfl | rfl | rfl <;> rfl) ?_; intro w1_ hw1_ hk1_; simp only [List.toList_toArray, World.setCells, Nat.zero_add, Nat.reduceAdd] at hw1_; subst hw1_; have hcb460_0 := (blk_cell hk1_ 0).trans rfl; have hfb460_0 := blk_frozen hk1_ 0; have hcb460_1 := (blk_cell hk1_ 1).trans rfl; have hfb460_1 := blk_frozen hk1_ 1; have hcb460_2 := (blk_cell hk1_ 2).trans rfl; have hfb460_2 := blk_frozen hk1_ 2; have hcb460_3 := (blk_cell hk1_ 3).trans rfl; have hfb460_3 := blk_frozen hk1_ 3; have hcb460_4 := (blk_cell hk1_ 4).trans rfl; have hfb460_4 := blk_frozen hk1_ 4; clear hk1_) | (go_at_call 11; (with_reducible refine (phaetonlaw04_Great.calls a0_0 a0_1 a0_2 a0_3 _ _ l0_4 false _ ?side1 ?side2 A8.out).mono ?_); (case side1 => repeat (first | exact (Kd.C_below HR0_4.out HB.out) | (with_reducible refine Kd.C_alloc ?_ _) | (with_reducible refine Kd.C_drewN ?_ _) | (with_reducible refine Kd.C_drew ?_))); (case side2 => exact HC0_4.out); rintro e w34 ⟨rfl, hb⟩; have n0_ := Aside0.mk (blk_below (g := gb460) (o := .cells #[.bool a0_0, .int .i64 a0_1, .bool a0_2, .int .i64 a0_3, .slice A0_4 l0_4.length c0_4] 24 (0, 0)) (by (with_reducible repeat (first | refine blk_drewN ?_ _ | refine blk_drew ?_ | refine blk_alloc ?_ _)); exact BK460.out) hb); have n1_ := Aside0.mk (blk_below (g := gb461) (o := .cells #[.bool a1_0, .int .i64 a1_1, .bool a1_2, .int .i64 a1_3, .slice A1_4 l1_4.length c1_4] 24 (0, 0)) (by (with_reducible repeat (first | refine blk_drewN ?_ _ | refine blk_drew ?_ | refine blk_alloc ?_ _)); exact BK461.out) hb); have n2_ := Aside0.mk (below_step (by repeat (first | (with_reducible first | exact HB.out | apply below_alloc | apply pw_below_drewN | apply below_drew1 | refine below_set ?_ GE460.out | refine below_set ?_ GE461.out) | exact HB.out)) hb); clear BK460; clear BK461; clear HB; have BK460 := n0_; have BK461 := n1_; have HB := n2_; clear n0_ n1_ n2_; (try clear hb); (try clear hb2); (try clear hk); (try clear hi); have hcz35_0 : w34.cell? ⟨gb461, 0, none⟩ = some (.bool a1_0) := (blk_cell BK461.out 0).trans rfl; have hcz35_1 : w34.cell? ⟨gb461, 1, none⟩ = some (.int .i64 a1_1) := (blk_cell BK461.out 1).trans rfl; have hcz35_2 : w34.cell? ⟨gb461, 2, none⟩ = some (.bool a1_2) := (blk_cell BK461.out 2).trans rfl; have hcz35_3 : w34.cell? ⟨gb461, 3, none⟩ = some (.int .i64 a1_3) := (blk_cell BK461.out 3).trans rfl; have hcz35_4 : w34.cell? ⟨gb461, 4, none⟩ = some (.slice A1_4 l1_4.length c1_4) := (blk_cell BK461.out 4).trans rfl; have hfz35_0 := blk_frozen BK461.out 0; have hfz35_1 := blk_frozen BK461.out 1; have hfz35_2 := blk_frozen BK461.out 2; have hfz35_3 := blk_frozen BK461.out 3; have hfz35_4 := blk_frozen BK461.out 4) | (go_at_call 11; (with_reducible refine (phaetonlaw04_Great.calls a1_0 a1_1 a1_2 a1_3 _ _ l1_4 false _ ?side1 ?side2 A13.out).mono ?_); (case side1 => repeat (first | exact (Kd.C_below HR1_4.out HB.out) | (with_reducible refine Kd.C_alloc ?_ _) | (with_reducible refine Kd.C_drewN ?_ _) | (with_reducible refine Kd.C_drew ?_))); (case side2 => exact HC1_4.out); rintro e w36 ⟨rfl, hb⟩; have n0_ := Aside0.mk (blk_below (g := gb460) (o := .cells #[.bool a0_0, .int .i64 a0_1, .bool a0_2, .int .i64 a0_3, .slice A0_4 l0_4.length c0_4] 24 (0, 0)) (by (with_reducible repeat (first | refine blk_drewN ?_ _ | refine blk_drew ?_ | refine blk_alloc ?_ _)); exact BK460.out) hb); have n1_ := Aside0.mk (blk_below (g := gb461) (o := .cells #[.bool a1_0, .int .i64 a1_1, .bool a1_2, .int .i64 a1_3, .slice A1_4 l1_4.length c1_4] 24 (0, 0)) (by (with_reducible repeat (first | refine blk_drewN ?_ _ | refine blk_drew ?_ | refine blk_alloc ?_ _)); exact BK461.out) hb); have n2_ := Aside0.mk (below_step (by repeat (first | (with_reducible first | exact HB.out | apply below_alloc | apply pw_below_drewN | apply below_drew1 | refine below_set ?_ GE460.out | refine below_set ?_ GE461.out) | exact HB.out)) hb); clear BK460; clear BK461; clear HB; have BK460 := n0_; have BK461 := n1_; have HB := n2_; clear n0_ n1_ n2_; (try clear hb); (try clear hb2); (try clear hk); (try clear hi); have hcz37_0 : w36.cell? ⟨gb460, 0, none⟩ = some (.bool a0_0) := (blk_cell BK460.out 0).trans rfl; have hcz37_1 : w36.cell? ⟨gb460, 1, none⟩ = some (.int .i64 a0_1) := (blk_cell BK460.out 1).trans rfl; have hcz37_2 : w36.cell? ⟨gb460, 2, none⟩ = some (.bool a0_2) := (blk_cell BK460.out 2).trans rfl; have hcz37_3 : w36.cell? ⟨gb460, 3, none⟩ = some (.int .i64 a0_3) := (blk_cell BK460.out 3).trans rfl; have hcz37_4 : w36.cell? ⟨gb460, 4, none⟩ = some (.slice A0_4 l0_4.length c0_4) := (blk_cell BK460.out 4).trans rfl; have hfz37_0 := blk_frozen BK460.out 0; have hfz37_1 := blk_frozen BK460.out 1; have hfz37_2 := blk_frozen BK460.out 2; have hfz37_3 := blk_frozen BK460.out 3; have hfz37_4 := blk_frozen BK460.out 4) | (go_at_call 13; (with_reducible refine (phaetonref04_Right.calls k a0_0 a0_1 a0_2 a0_3 _ _ l0_4 false _ ?side1 ?side2 A20.out).mono ?_); (case side1 => repeat (first | exact (Kd.C_below HR0_4.out HB.out) | (with_reducible refine Kd.C_alloc ?_ _) | (with_reducible refine Kd.C_drewN ?_ _) | (with_reducible refine Kd.C_drew ?_))); (case side2 => exact HC0_4.out); rintro e w38 ⟨rfl, hb⟩; have n0_ := Aside0.mk (blk_below (g := gb460) (o := .cells #[.bool a0_0, .int .i64 a0_1, .bool a0_2, .int .i64 a0_3, .slice A0_4 l0_4.length c0_4] 24 (0, 0)) (by (with_reducible repeat (first | refine blk_drewN ?_ _ | refine blk_drew ?_ | refine blk_alloc ?_ _)); exact BK460.out) hb); have n1_ := Aside0.mk (blk_below (g := gb461) (o := .cells #[.bool a1_0, .int .i64 a1_1, .bool a1_2, .int .i64 a1_3, .slice A1_4 l1_4.length c1_4] 24 (0, 0)) (by (with_reducible repeat (first | refine blk_drewN ?_ _ | refine blk_drew ?_ | refine blk_alloc ?_ _)); exact BK461.out) hb); have n2_ := Aside0.mk (below_step (by repeat (first | (with_reducible first | exact HB.out | apply below_alloc | apply pw_below_drewN | apply below_drew1 | refine below_set ?_ GE460.out | refine below_set ?_ GE461.out) | exact HB.out)) hb); clear BK460; clear BK461; clear HB; have BK460 := n0_; have BK461 := n1_; have HB := n2_; clear n0_ n1_ n2_; (try clear hb); (try clear hb2); (try clear hk); (try clear hi)))
          repeat (go_quiet (first | (go_at_call 11; (with_reducible refine (phaetonlaw04_Great.calls a0_0 a0_1 a0_2 a0_3 _ _ l0_4 false _ ?side1 ?side2 A8.out).mono ?_); (case side1 => repeat (first | exact (Kd.C_below HR0_4.out HB.out) | (with_reducible refine Kd.C_alloc ?_ _) | (with_reducible refine Kd.C_drewN ?_ _) | (with_reducible refine Kd.C_drew ?_))); (case side2 => exact HC0_4.out); rintro e w34 ⟨rfl, hb⟩; have n0_ := Aside0.mk (blk_below (g := gb460) (o := .cells #[.bool a0_0, .int .i64 a0_1, .bool a0_2, .int .i64 a0_3, .slice A0_4 l0_4.length c0_4] 24 (0, 0)) (by (with_reducible repeat (first | refine blk_drewN ?_ _ | refine blk_drew ?_ | refine blk_alloc ?_ _)); exact BK460.out) hb); have n1_ := Aside0.mk (blk_below (g := gb461) (o := .cells #[.bool a1_0, .int .i64 a1_1, .bool a1_2, .int .i64 a1_3, .slice A1_4 l1_4.length c1_4] 24 (0, 0)) (by (with_reducible repeat (first | refine blk_drewN ?_ _ | refine blk_drew ?_ | refine blk_alloc ?_ _)); exact BK461.out) hb); have n2_ := Aside0.mk (below_step (by repeat (first | (with_reducible first | exact HB.out | apply below_alloc | apply pw_below_drewN | apply below_drew1 | refine below_set ?_ GE460.out | refine below_set ?_ GE461.out) | exact HB.out)) hb); clear BK460; clear BK461; clear HB; have BK460 := n0_; have BK461 := n1_; have HB := n2_; clear n0_ n1_ n2_; (try clear hb); (try clear hb2); (try clear hk); (try clear hi); have hcz35_0 : w34.cell? ⟨gb461, 0, none⟩ = some (.bool a1_0) := (blk_cell BK461.out 0).trans rfl; have hcz35_1 : w34.cell? ⟨gb461, 1, none⟩ = some (.int .i64 a1_1) := (blk_cell BK461.out 1).trans rfl; have hcz35_2 : w34.cell? ⟨gb461, 2, none⟩ = some (.bool a1_2) := (blk_cell BK461.out 2).trans rfl; have hcz35_3 : w34.cell? ⟨gb461, 3, none⟩ = some (.int .i64 a1_3) := (blk_cell BK461.out 3).trans rfl; have hcz35_4 : w34.cell? ⟨gb461, 4, none⟩ = some (.slice A1_4 l1_4.length c1_4) := (blk_cell BK461.out 4).trans rfl; have hfz35_0 := blk_frozen BK461.out 0; have hfz35_1 := blk_frozen BK461.out 1; have hfz35_2 := blk_frozen BK461.out 2; have hfz35_3 := blk_frozen BK461.out 3; have hfz35_4 := blk_frozen BK461.out 4) | (go_at_call 11; (with_reducible refine (phaetonlaw04_Great.calls a1_0 a1_1 a1_2 a1_3 _ _ l1_4 false _ ?side1 ?side2 A13.out).mono ?_); (case side1 => repeat (first | exact (Kd.C_below HR1_4.out HB.out) | (with_reducible refine Kd.C_alloc ?_ _) | (with_reducible refine Kd.C_drewN ?_ _) | (with_reducible refine Kd.C_drew ?_))); (case side2 => exact HC1_4.out); rintro e w36 ⟨rfl, hb⟩; have n0_ := Aside0.mk (blk_below (g := gb460) (o := .cells #[.bool a0_0, .int .i64 a0_1, .bool a0_2, .int .i64 a0_3, .slice A0_4 l0_4.length c0_4] 24 (0, 0)) (by (with_reducible repeat (first | refine blk_drewN ?_ _ | refine blk_drew ?_ | refine blk_alloc ?_ _)); exact BK460.out) hb); have n1_ := Aside0.mk (blk_below (g := gb461) (o := .cells #[.bool a1_0, .int .i64 a1_1, .bool a1_2, .int .i64 a1_3, .slice A1_4 l1_4.length c1_4] 24 (0, 0)) (by (with_reducible repeat (first | refine blk_drewN ?_ _ | refine blk_drew ?_ | refine blk_alloc ?_ _)); exact BK461.out) hb); have n2_ := Aside0.mk (below_step (by repeat (first | (with_reducible first | exact HB.out | apply below_alloc | apply pw_below_drewN | apply below_drew1 | refine below_set ?_ GE460.out | refine below_set ?_ GE461.out) | exact HB.out)) hb); clear BK460; clear BK461; clear HB; have BK460 := n0_; have BK461 := n1_; have HB := n2_; clear n0_ n1_ n2_; (try clear hb); (try clear hb2); (try clear hk); (try clear hi); have hcz37_0 : w36.cell? ⟨gb460, 0, none⟩ = some (.bool a0_0) := (blk_cell BK460.out 0).trans rfl; have hcz37_1 : w36.cell? ⟨gb460, 1, none⟩ = some (.int .i64 a0_1) := (blk_cell BK460.out 1).trans rfl; have hcz37_2 : w36.cell? ⟨gb460, 2, none⟩ = some (.bool a0_2) := (blk_cell BK460.out 2).trans rfl; have hcz37_3 : w36.cell? ⟨gb460, 3, none⟩ = some (.int .i64 a0_3) := (blk_cell BK460.out 3).trans rfl; have hcz37_4 : w36.cell? ⟨gb460, 4, none⟩ = some (.slice A0_4 l0_4.length c0_4) := (blk_cell BK460.out 4).trans rfl; have hfz37_0 := blk_frozen BK460.out 0; have hfz37_1 := blk_frozen BK460.out 1; have hfz37_2 := blk_frozen BK460.out 2; have hfz37_3 := blk_frozen BK460.out 3; have hfz37_4 := blk_frozen BK460.out 4) | (go_at_call 13; (with_reducible refine (phaetonref04_Right.calls k a0_0 a0_1 a0_2 a0_3 _ _ l0_4 false _ ?side1 ?side2 A20.out).mono ?_); (case side1 => repeat (first | exact (Kd.C_below HR0_4.out HB.out) | (with_reducible refine Kd.C_alloc ?_ _) | (with_reducible refine Kd.C_drewN ?_ _) | (with_reducible refine Kd.C_drew ?_))); (case side2 => exact HC0_4.out); rintro e w38 ⟨rfl, hb⟩; have n0_ := Aside0.mk (blk_below (g := gb460) (o := .cells #[.bool a0_0, .int .i64 a0_1, .bool a0_2, .int .i64 a0_3, .slice A0_4 l0_4.length c0_4] 24 (0, 0)) (by (with_reducible repeat (first | refine blk_drewN ?_ _ | refine blk_drew ?_ | refine blk_alloc ?_ _)); exact BK460.out) hb); have n1_ := Aside0.mk (blk_below (g := gb461) (o := .cells #[.bool a1_0, .int .i64 a1_1, .bool a1_2, .int .i64 a1_3, .slice A1_4 l1_4.length c1_4] 24 (0, 0)) (by (with_reducible repeat (first | refine blk_drewN ?_ _ | refine blk_drew ?_ | refine blk_alloc ?_ _)); exact BK461.out) hb); have n2_ := Aside0.mk (below_step (by repeat (first | (with_reducible first | exact HB.out | apply below_alloc | apply pw_below_drewN | apply below_drew1 | refine below_set ?_ GE460.out | refine below_set ?_ GE461.out) | exact HB.out)) hb); clear BK460; clear BK461; clear HB; have BK460 := n0_; have BK461 := n1_; have HB := n2_; clear n0_ n1_ n2_; (try clear hb); (try clear hb2); (try clear hk); (try clear hi))); try go_wp2_with (first | (go_at_call 11; (with_reducible refine (phaetonlaw04_Great.calls a0_0 a0_1 a0_2 a0_3 _ _ l0_4 false _ ?side1 ?side2 A8.out).mono ?_); (case side1 => repeat (first | exact (Kd.C_below HR0_4.out HB.out) | (with_reducible refine Kd.C_alloc ?_ _) | (with_reducible refine Kd.C_drewN ?_ _) | (with_reducible refine Kd.C_drew ?_))); (case side2 => exact HC0_4.out); rintro e w34 ⟨rfl, hb⟩; have n0_ := Aside0.mk (blk_below (g := gb460) (o := .cells #[.bool a0_0, .int .i64 a0_1, .bool a0_2, .int .i64 a0_3, .slice A0_4 l0_4.length c0_4] 24 (0, 0)) (by (with_reducible repeat (first | refine blk_drewN ?_ _ | refine blk_drew ?_ | refine blk_alloc ?_ _)); exact BK460.out) hb); have n1_ := Aside0.mk (blk_below (g := gb461) (o := .cells #[.bool a1_0, .int .i64 a1_1, .bool a1_2, .int .i64 a1_3, .slice A1_4 l1_4.length c1_4] 24 (0, 0)) (by (with_reducible repeat (first | refine blk_drewN ?_ _ | refine blk_drew ?_ | refine blk_alloc ?_ _)); exact BK461.out) hb); have n2_ := Aside0.mk (below_step (by repeat (first | (with_reducible first | exact HB.out | apply below_alloc | apply pw_below_drewN | apply below_drew1 | refine below_set ?_ GE460.out | refine below_set ?_ GE461.out) | exact HB.out)) hb); clear BK460; clear BK461; clear HB; have BK460 := n0_; have BK461 := n1_; have HB := n2_; clear n0_ n1_ n2_; (try clear hb); (try clear hb2); (try clear hk); (try clear hi); have hcz35_0 : w34.cell? ⟨gb461, 0, none⟩ = some (.bool a1_0) := (blk_cell BK461.out 0).trans rfl; have hcz35_1 : w34.cell? ⟨gb461, 1, none⟩ = some (.int .i64 a1_1) := (blk_cell BK461.out 1).trans rfl; have hcz35_2 : w34.cell? ⟨gb461, 2, none⟩ = some (.bool a1_2) := (blk_cell BK461.out 2).trans rfl; have hcz35_3 : w34.cell? ⟨gb461, 3, none⟩ = some (.int .i64 a1_3) := (blk_cell BK461.out 3).trans rfl; have hcz35_4 : w34.cell? ⟨gb461, 4, none⟩ = some (.slice A1_4 l1_4.length c1_4) := (blk_cell BK461.out 4).trans rfl; have hfz35_0 := blk_frozen BK461.out 0; have hfz35_1 := blk_frozen BK461.out 1; have hfz35_2 := blk_frozen BK461.out 2; have hfz35_3 := blk_frozen BK461.out 3; have hfz35_4 := blk_frozen BK461.out 4) | (go_at_call 11; (with_reducible refine (phaetonlaw04_Great.calls a1_0 a1_1 a1_2 a1_3 _ _ l1_4 false _ ?side1 ?side2 A13.out).mono ?_); (case side1 => repeat (first | exact (Kd.C_below HR1_4.out HB.out) | (with_reducible refine Kd.C_alloc ?_ _) | (with_reducible refine Kd.C_drewN ?_ _) | (with_reducible refine Kd.C_drew ?_))); (case side2 => exact HC1_4.out); rintro e w36 ⟨rfl, hb⟩; have n0_ := Aside0.mk (blk_below (g := gb460) (o := .cells #[.bool a0_0, .int .i64 a0_1, .bool a0_2, .int .i64 a0_3, .slice A0_4 l0_4.length c0_4] 24 (0, 0)) (by (with_reducible repeat (first | refine blk_drewN ?_ _ | refine blk_drew ?_ | refine blk_alloc ?_ _)); exact BK460.out) hb); have n1_ := Aside0.mk (blk_below (g := gb461) (o := .cells #[.bool a1_0, .int .i64 a1_1, .bool a1_2, .int .i64 a1_3, .slice A1_4 l1_4.length c1_4] 24 (0, 0)) (by (with_reducible repeat (first | refine blk_drewN ?_ _ | refine blk_drew ?_ | refine blk_alloc ?_ _)); exact BK461.out) hb); have n2_ := Aside0.mk (below_step (by repeat (first | (with_reducible first | exact HB.out | apply below_alloc | apply pw_below_drewN | apply below_drew1 | refine below_set ?_ GE460.out | refine below_set ?_ GE461.out) | exact HB.out)) hb); clear BK460; clear BK461; clear HB; have BK460 := n0_; have BK461 := n1_; have HB := n2_; clear n0_ n1_ n2_; (try clear hb); (try clear hb2); (try clear hk); (try clear hi); have hcz37_0 : w36.cell? ⟨gb460, 0, none⟩ = some (.bool a0_0) := (blk_cell BK460.out 0).trans rfl; have hcz37_1 : w36.cell? ⟨gb460, 1, none⟩ = some (.int .i64 a0_1) := (blk_cell BK460.out 1).trans rfl; have hcz37_2 : w36.cell? ⟨gb460, 2, none⟩ = some (.bool a0_2) := (blk_cell BK460.out 2).trans rfl; have hcz37_3 : w36.cell? ⟨gb460, 3, none⟩ = some (.int .i64 a0_3) := (blk_cell BK460.out 3).trans rfl; have hcz37_4 : w36.cell? ⟨gb460, 4, none⟩ = some (.slice A0_4 l0_4.length c0_4) := (blk_cell BK460.out 4).trans rfl; have hfz37_0 := blk_frozen BK460.out 0; have hfz37_1 := blk_frozen BK460.out 1; have hfz37_2 := blk_frozen BK460.out 2; have hfz37_3 := blk_frozen BK460.out 3; have hfz37_4 := blk_frozen BK460.out 4) | (go_at_call 13; (with_reducible refine (phaetonref04_Right.calls k a0_0 a0_1 a0_2 a0_3 _ _ l0_4 false _ ?side1 ?side2 A20.out).mono ?_); (case side1 => repeat (first | exact (Kd.C_below HR0_4.out HB.out) | (with_reducible refine Kd.C_alloc ?_ _) | (with_reducible refine Kd.C_drewN ?_ _) | (with_reducible refine Kd.C_drew ?_))); (case side2 => exact HC0_4.out); rintro e w38 ⟨rfl, hb⟩; have n0_ := Aside0.mk (blk_below (g := gb460) (o := .cells #[.bool a0_0, .int .i64 a0_1, .bool a0_2, .int .i64 a0_3, .slice A0_4 l0_4.length c0_4] 24 (0, 0)) (by (with_reducible repeat (first | refine blk_drewN ?_ _ | refine blk_drew ?_ | refine blk_alloc ?_ _)); exact BK460.out) hb); have n1_ := Aside0.mk (blk_below (g := gb461) (o := .cells #[.bool a1_0, .int .i64 a1_1, .bool a1_2, .int .i64 a1_3, .slice A1_4 l1_4.length c1_4] 24 (0, 0)) (by (with_reducible repeat (first | refine blk_drewN ?_ _ | refine blk_drew ?_ | refine blk_alloc ?_ _)); exact BK461.out) hb); have n2_ := Aside0.mk (below_step (by repeat (first | (with_reducible first | exact HB.out | apply below_alloc | apply pw_below_drewN | apply below_drew1 | refine below_set ?_ GE460.out | refine below_set ?_ GE461.out) | exact HB.out)) hb); clear BK460; clear BK461; clear HB; have BK460 := n0_; have BK461 := n1_; have HB := n2_; clear n0_ n1_ n2_; (try clear hb); (try clear hb2); (try clear hk); (try clear hi))))
          go_meet
          case rel => exact ⟨_, (true), (by first | rfl | (simp; done) | (simp [*]; done)), H', ⟨by first | omega | exact Nat.le_refl _⟩, ⟨by (with_reducible repeat (first | refine blk_drewN ?_ _ | refine blk_drew ?_ | refine blk_alloc ?_ _)); exact BK460.out⟩, ⟨by (with_reducible repeat (first | refine blk_drewN ?_ _ | refine blk_drew ?_ | refine blk_alloc ?_ _)); exact BK461.out⟩, ⟨by repeat (first | (with_reducible first | exact HB.out | apply below_alloc | apply pw_below_drewN | apply below_drew1 | refine below_set ?_ GE460.out | refine below_set ?_ GE461.out) | exact HB.out)⟩⟩
  case rest =>
    clear HC4
    try clear c1
    try clear c2
    try clear p2
    try clear c3
    try clear c6
    try clear c9
    try clear c10
    try clear c14
    try clear c15
    try clear c21
    try clear c23
    try clear c32
    try clear hcz11_0
    try clear hcz11_1
    try clear hcz11_2
    try clear hcz11_3
    try clear hcz11_4
    try clear hcz16_0
    try clear hcz16_1
    try clear hcz16_2
    try clear hcz16_3
    try clear hcz16_4
    try clear hcz18_0
    try clear hcz18_1
    try clear hcz18_2
    try clear hcz18_3
    try clear hcz18_4
    try clear hcz24_0
    try clear hcz24_1
    try clear hcz24_2
    try clear hcz24_3
    try clear hcz24_4
    try clear hcz26_0
    try clear hcz26_1
    try clear hcz26_2
    try clear hcz26_3
    try clear hcz26_4
    try clear hcz28_0
    try clear hcz28_1
    try clear hcz28_2
    try clear hcz28_3
    try clear hcz28_4
    try clear hcz30_0
    try clear hcz30_1
    try clear hcz30_2
    try clear hcz30_3
    try clear hcz30_4
    try clear hcz33_0
    try clear hcz33_1
    try clear hcz33_2
    try clear hcz33_3
    try clear hcz33_4
    try clear hcz35_0
    try clear hcz35_1
    try clear hcz35_2
    try clear hcz35_3
    try clear hcz35_4
    try clear hcz37_0
    try clear hcz37_1
    try clear hcz37_2
    try clear hcz37_3
    try clear hcz37_4
    try clear hfz11_0
    try clear hfz11_1
    try clear hfz11_2
    try clear hfz11_3
    try clear hfz11_4
    try clear hfz16_0
    try clear hfz16_1
    try clear hfz16_2
    try clear hfz16_3
    try clear hfz16_4
    try clear hfz18_0
    try clear hfz18_1
    try clear hfz18_2
    try clear hfz18_3
    try clear hfz18_4
    try clear hfz24_0
    try clear hfz24_1
    try clear hfz24_2
    try clear hfz24_3
    try clear hfz24_4
    try clear hfz26_0
    try clear hfz26_1
    try clear hfz26_2
    try clear hfz26_3
    try clear hfz26_4
    try clear hfz28_0
    try clear hfz28_1
    try clear hfz28_2
    try clear hfz28_3
    try clear hfz28_4
    try clear hfz30_0
    try clear hfz30_1
    try clear hfz30_2
    try clear hfz30_3
    try clear hfz30_4
    try clear hfz33_0
    try clear hfz33_1
    try clear hfz33_2
    try clear hfz33_3
    try clear hfz33_4
    try clear hfz35_0
    try clear hfz35_1
    try clear hfz35_2
    try clear hfz35_3
    try clear hfz35_4
    try clear hfz37_0
    try clear hfz37_1
    try clear hfz37_2
    try clear hfz37_3
    try clear hfz37_4
    obtain ⟨kq, x27_3, rfl, HA, HJ3, BK460, BK461, HB⟩ := hcut
    cases kq with
    | zero => exact absurd HA.out (by simp [phaetonlaw04_FrameRank.j0])
    | succ kj3 =>
      have H := HA.out
      clear HA
      simp only [phaetonlaw04_FrameRank.j0] at H
      by_cases c39 : x27_3 = true
      · subst c39
        have H1 : (if t462 = true then (some true) else (none)) = some r := by rw [if_pos rfl] at H; exact H
        clear H
        have H := H1
        clear H1
        by_cases c40 : t462 = true
        · subst c40
          have H1 : (some true) = some r := by rw [if_pos rfl] at H; exact H
          clear H
          have H := H1
          clear H1
          obtain rfl := Option.some.inj H
          go_wp2
          repeat (go_quiet (fail); try go_wp2)
          go_ret
          exact ⟨by first | rfl | (simp [errW_none, errW_some] <;> rfl) | (simp [*, errW_none, errW_some] <;> rfl), by repeat (first | (with_reducible first | exact HB.out | apply below_alloc | apply pw_below_drewN | apply below_drew1 | refine below_set ?_ GE460.out | refine below_set ?_ GE461.out) | exact HB.out)⟩
        · replace c40 := Bool.eq_false_iff.mpr c40
          subst c40
          have H1 : (none) = some r := by rw [if_neg (show ¬ (false = true) by decide)] at H; exact H
          clear H
          have H := H1
          clear H1
          exact absurd H (by simp)
      · replace c39 := Bool.eq_false_iff.mpr c39
        subst c39
        have H1 : ((frame_Rank.f a0_0 a0_1 a0_2 a0_3 l0_4).bind fun t467 => ((frame_Rank.f a1_0 a1_1 a1_2 a1_3 l1_4).bind fun t470 => ((frame_Head.f a0_0 a0_1 a0_2 a0_3 l0_4).bind fun t473 => (if (t467.length : Int) = 13 then (if (((t467.length : Int) == 32) != a0_0) = true then (phaetonlaw04_FrameRank.j1 kj3 t462 t467 t470 true a0_0 a0_1 a0_2 a0_3 l0_4 a1_0 a1_1 a1_2 a1_3 l1_4) else (if (t473.length : Int) ≤ (t467.length : Int) then (phaetonlaw04_FrameRank.j1 kj3 t462 t467 t470 true a0_0 a0_1 a0_2 a0_3 l0_4 a1_0 a1_1 a1_2 a1_3 l1_4) else (if 1 ≤ (wrap64 (1 + (t467.length : Int))) then (if (wrap64 (1 + (t467.length : Int))) ≤ (t473.length : Int) then ((phaetonref01_Same.f kj3 ((t473.take ((wrap64 (1 + (t467.length : Int))) : Int).toNat).drop 1) t467).bind fun t480 => (phaetonlaw04_FrameRank.j1 kj3 t462 t467 t470 (!t480) a0_0 a0_1 a0_2 a0_3 l0_4 a1_0 a1_1 a1_2 a1_3 l1_4)) else (none)) else (none)))) else (if (t467.length : Int) = 32 then (if (((t467.length : Int) == 32) != a0_0) = true then (phaetonlaw04_FrameRank.j1 kj3 t462 t467 t470 true a0_0 a0_1 a0_2 a0_3 l0_4 a1_0 a1_1 a1_2 a1_3 l1_4) else (if (t473.length : Int) ≤ (t467.length : Int) then (phaetonlaw04_FrameRank.j1 kj3 t462 t467 t470 true a0_0 a0_1 a0_2 a0_3 l0_4 a1_0 a1_1 a1_2 a1_3 l1_4) else (if 1 ≤ (wrap64 (1 + (t467.length : Int))) then (if (wrap64 (1 + (t467.length : Int))) ≤ (t473.length : Int) then ((phaetonref01_Same.f kj3 ((t473.take ((wrap64 (1 + (t467.length : Int))) : Int).toNat).drop 1) t467).bind fun t485 => (phaetonlaw04_FrameRank.j1 kj3 t462 t467 t470 (!t485) a0_0 a0_1 a0_2 a0_3 l0_4 a1_0 a1_1 a1_2 a1_3 l1_4)) else (none)) else (none)))) else (phaetonlaw04_FrameRank.j1 kj3 t462 t467 t470 true a0_0 a0_1 a0_2 a0_3 l0_4 a1_0 a1_1 a1_2 a1_3 l1_4)))))) = some r := by rw [if_neg (show ¬ (false = true) by decide)] at H; exact H
        clear H
        have H := H1
        clear H1
        replace H := Option.bind_eq_some_iff.mp H
        obtain ⟨t467, A410, H⟩ := H
        replace H : ((frame_Rank.f a1_0 a1_1 a1_2 a1_3 l1_4).bind fun t470 => ((frame_Head.f a0_0 a0_1 a0_2 a0_3 l0_4).bind fun t473 => (if (t467.length : Int) = 13 then (if (((t467.length : Int) == 32) != a0_0) = true then (phaetonlaw04_FrameRank.j1 kj3 t462 t467 t470 true a0_0 a0_1 a0_2 a0_3 l0_4 a1_0 a1_1 a1_2 a1_3 l1_4) else (if (t473.length : Int) ≤ (t467.length : Int) then (phaetonlaw04_FrameRank.j1 kj3 t462 t467 t470 true a0_0 a0_1 a0_2 a0_3 l0_4 a1_0 a1_1 a1_2 a1_3 l1_4) else (if 1 ≤ (wrap64 (1 + (t467.length : Int))) then (if (wrap64 (1 + (t467.length : Int))) ≤ (t473.length : Int) then ((phaetonref01_Same.f kj3 ((t473.take ((wrap64 (1 + (t467.length : Int))) : Int).toNat).drop 1) t467).bind fun t480 => (phaetonlaw04_FrameRank.j1 kj3 t462 t467 t470 (!t480) a0_0 a0_1 a0_2 a0_3 l0_4 a1_0 a1_1 a1_2 a1_3 l1_4)) else (none)) else (none)))) else (if (t467.length : Int) = 32 then (if (((t467.length : Int) == 32) != a0_0) = true then (phaetonlaw04_FrameRank.j1 kj3 t462 t467 t470 true a0_0 a0_1 a0_2 a0_3 l0_4 a1_0 a1_1 a1_2 a1_3 l1_4) else (if (t473.length : Int) ≤ (t467.length : Int) then (phaetonlaw04_FrameRank.j1 kj3 t462 t467 t470 true a0_0 a0_1 a0_2 a0_3 l0_4 a1_0 a1_1 a1_2 a1_3 l1_4) else (if 1 ≤ (wrap64 (1 + (t467.length : Int))) then (if (wrap64 (1 + (t467.length : Int))) ≤ (t473.length : Int) then ((phaetonref01_Same.f kj3 ((t473.take ((wrap64 (1 + (t467.length : Int))) : Int).toNat).drop 1) t467).bind fun t485 => (phaetonlaw04_FrameRank.j1 kj3 t462 t467 t470 (!t485) a0_0 a0_1 a0_2 a0_3 l0_4 a1_0 a1_1 a1_2 a1_3 l1_4)) else (none)) else (none)))) else (phaetonlaw04_FrameRank.j1 kj3 t462 t467 t470 true a0_0 a0_1 a0_2 a0_3 l0_4 a1_0 a1_1 a1_2 a1_3 l1_4))))) = some r := H
        have A41 := Aside0.mk A410
        clear A410
        replace H := Option.bind_eq_some_iff.mp H
        obtain ⟨t470, A420, H⟩ := H
        replace H : ((frame_Head.f a0_0 a0_1 a0_2 a0_3 l0_4).bind fun t473 => (if (t467.length : Int) = 13 then (if (((t467.length : Int) == 32) != a0_0) = true then (phaetonlaw04_FrameRank.j1 kj3 t462 t467 t470 true a0_0 a0_1 a0_2 a0_3 l0_4 a1_0 a1_1 a1_2 a1_3 l1_4) else (if (t473.length : Int) ≤ (t467.length : Int) then (phaetonlaw04_FrameRank.j1 kj3 t462 t467 t470 true a0_0 a0_1 a0_2 a0_3 l0_4 a1_0 a1_1 a1_2 a1_3 l1_4) else (if 1 ≤ (wrap64 (1 + (t467.length : Int))) then (if (wrap64 (1 + (t467.length : Int))) ≤ (t473.length : Int) then ((phaetonref01_Same.f kj3 ((t473.take ((wrap64 (1 + (t467.length : Int))) : Int).toNat).drop 1) t467).bind fun t480 => (phaetonlaw04_FrameRank.j1 kj3 t462 t467 t470 (!t480) a0_0 a0_1 a0_2 a0_3 l0_4 a1_0 a1_1 a1_2 a1_3 l1_4)) else (none)) else (none)))) else (if (t467.length : Int) = 32 then (if (((t467.length : Int) == 32) != a0_0) = true then (phaetonlaw04_FrameRank.j1 kj3 t462 t467 t470 true a0_0 a0_1 a0_2 a0_3 l0_4 a1_0 a1_1 a1_2 a1_3 l1_4) else (if (t473.length : Int) ≤ (t467.length : Int) then (phaetonlaw04_FrameRank.j1 kj3 t462 t467 t470 true a0_0 a0_1 a0_2 a0_3 l0_4 a1_0 a1_1 a1_2 a1_3 l1_4) else (if 1 ≤ (wrap64 (1 + (t467.length : Int))) then (if (wrap64 (1 + (t467.length : Int))) ≤ (t473.length : Int) then ((phaetonref01_Same.f kj3 ((t473.take ((wrap64 (1 + (t467.length : Int))) : Int).toNat).drop 1) t467).bind fun t485 => (phaetonlaw04_FrameRank.j1 kj3 t462 t467 t470 (!t485) a0_0 a0_1 a0_2 a0_3 l0_4 a1_0 a1_1 a1_2 a1_3 l1_4)) else (none)) else (none)))) else (phaetonlaw04_FrameRank.j1 kj3 t462 t467 t470 true a0_0 a0_1 a0_2 a0_3 l0_4 a1_0 a1_1 a1_2 a1_3 l1_4)))) = some r := H
        have A42 := Aside0.mk A420
        clear A420
        replace H := Option.bind_eq_some_iff.mp H
        obtain ⟨t473, A430, H⟩ := H
        replace H : (if (t467.length : Int) = 13 then (if (((t467.length : Int) == 32) != a0_0) = true then (phaetonlaw04_FrameRank.j1 kj3 t462 t467 t470 true a0_0 a0_1 a0_2 a0_3 l0_4 a1_0 a1_1 a1_2 a1_3 l1_4) else (if (t473.length : Int) ≤ (t467.length : Int) then (phaetonlaw04_FrameRank.j1 kj3 t462 t467 t470 true a0_0 a0_1 a0_2 a0_3 l0_4 a1_0 a1_1 a1_2 a1_3 l1_4) else (if 1 ≤ (wrap64 (1 + (t467.length : Int))) then (if (wrap64 (1 + (t467.length : Int))) ≤ (t473.length : Int) then ((phaetonref01_Same.f kj3 ((t473.take ((wrap64 (1 + (t467.length : Int))) : Int).toNat).drop 1) t467).bind fun t480 => (phaetonlaw04_FrameRank.j1 kj3 t462 t467 t470 (!t480) a0_0 a0_1 a0_2 a0_3 l0_4 a1_0 a1_1 a1_2 a1_3 l1_4)) else (none)) else (none)))) else (if (t467.length : Int) = 32 then (if (((t467.length : Int) == 32) != a0_0) = true then (phaetonlaw04_FrameRank.j1 kj3 t462 t467 t470 true a0_0 a0_1 a0_2 a0_3 l0_4 a1_0 a1_1 a1_2 a1_3 l1_4) else (if (t473.length : Int) ≤ (t467.length : Int) then (phaetonlaw04_FrameRank.j1 kj3 t462 t467 t470 true a0_0 a0_1 a0_2 a0_3 l0_4 a1_0 a1_1 a1_2 a1_3 l1_4) else (if 1 ≤ (wrap64 (1 + (t467.length : Int))) then (if (wrap64 (1 + (t467.length : Int))) ≤ (t473.length : Int) then ((phaetonref01_Same.f kj3 ((t473.take ((wrap64 (1 + (t467.length : Int))) : Int).toNat).drop 1) t467).bind fun t485 => (phaetonlaw04_FrameRank.j1 kj3 t462 t467 t470 (!t485) a0_0 a0_1 a0_2 a0_3 l0_4 a1_0 a1_1 a1_2 a1_3 l1_4)) else (none)) else (none)))) else (phaetonlaw04_FrameRank.j1 kj3 t462 t467 t470 true a0_0 a0_1 a0_2 a0_3 l0_4 a1_0 a1_1 a1_2 a1_3 l1_4))) = some r := H
        have A43 := Aside0.mk A430
        clear A430
        have HC44 := Aside0.mk H
        clear H
        have hnb45 := NB460_461.out
        have hnc45 := NB461_460.out
        have hcz46_0 : wc.cell? ⟨gb460, 0, none⟩ = some (.bool a0_0) := (blk_cell BK460.out 0).trans rfl
        have hcz46_1 : wc.cell? ⟨gb460, 1, none⟩ = some (.int .i64 a0_1) := (blk_cell BK460.out 1).trans rfl
        have hcz46_2 : wc.cell? ⟨gb460, 2, none⟩ = some (.bool a0_2) := (blk_cell BK460.out 2).trans rfl
        have hcz46_3 : wc.cell? ⟨gb460, 3, none⟩ = some (.int .i64 a0_3) := (blk_cell BK460.out 3).trans rfl
        have hcz46_4 : wc.cell? ⟨gb460, 4, none⟩ = some (.slice A0_4 l0_4.length c0_4) := (blk_cell BK460.out 4).trans rfl
        have hfz46_0 := blk_frozen BK460.out 0
        have hfz46_1 := blk_frozen BK460.out 1
        have hfz46_2 := blk_frozen BK460.out 2
        have hfz46_3 := blk_frozen BK460.out 3
        have hfz46_4 := blk_frozen BK460.out 4
        go_upto_region 7 with (first | (go_at_call 19; (with_reducible refine (frame_Rank.calls a0_0 a0_1 a0_2 a0_3 _ _ l0_4 t467 _ ?side1 ?side2 A41.out).mono ?_); (case side1 => repeat (first | exact (Kd.C_below HR0_4.out HB.out) | (with_reducible refine Kd.C_alloc ?_ _) | (with_reducible refine Kd.C_drewN ?_ _) | (with_reducible refine Kd.C_drew ?_))); (case side2 => exact HC0_4.out); rintro e w47 ⟨v468, rfl, ho0, hb⟩; have n0_ := Aside0.mk (Kd.R_lower ho0 (below_size (by repeat (first | (with_reducible first | exact HB.out | apply below_alloc | apply pw_below_drewN | apply below_drew1 | refine below_set ?_ GE460.out | refine below_set ?_ GE461.out) | exact HB.out)))); have n1_ := Aside0.mk (blk_below (g := gb460) (o := .cells #[.bool a0_0, .int .i64 a0_1, .bool a0_2, .int .i64 a0_3, .slice A0_4 l0_4.length c0_4] 24 (0, 0)) (by (with_reducible repeat (first | refine blk_drewN ?_ _ | refine blk_drew ?_ | refine blk_alloc ?_ _)); exact BK460.out) hb); have n2_ := Aside0.mk (blk_below (g := gb461) (o := .cells #[.bool a1_0, .int .i64 a1_1, .bool a1_2, .int .i64 a1_3, .slice A1_4 l1_4.length c1_4] 24 (0, 0)) (by (with_reducible repeat (first | refine blk_drewN ?_ _ | refine blk_drew ?_ | refine blk_alloc ?_ _)); exact BK461.out) hb); have n3_ := Aside0.mk (below_step (by repeat (first | (with_reducible first | exact HB.out | apply below_alloc | apply pw_below_drewN | apply below_drew1 | refine below_set ?_ GE460.out | refine below_set ?_ GE461.out) | exact HB.out)) hb); clear BK460; clear BK461; clear HB; have HO469 := n0_; have BK460 := n1_; have BK461 := n2_; have HB := n3_; clear n0_ n1_ n2_ n3_; (try clear hb); (try clear hb2); (try clear hk); (try clear hi); (try clear ho0); have hcz48_0 : w47.cell? ⟨gb461, 0, none⟩ = some (.bool a1_0) := (blk_cell BK461.out 0).trans rfl; have hcz48_1 : w47.cell? ⟨gb461, 1, none⟩ = some (.int .i64 a1_1) := (blk_cell BK461.out 1).trans rfl; have hcz48_2 : w47.cell? ⟨gb461, 2, none⟩ = some (.bool a1_2) := (blk_cell BK461.out 2).trans rfl; have hcz48_3 : w47.cell? ⟨gb461, 3, none⟩ = some (.int .i64 a1_3) := (blk_cell BK461.out 3).trans rfl; have hcz48_4 : w47.cell? ⟨gb461, 4, none⟩ = some (.slice A1_4 l1_4.length c1_4) := (blk_cell BK461.out 4).trans rfl; have hfz48_0 := blk_frozen BK461.out 0; have hfz48_1 := blk_frozen BK461.out 1; have hfz48_2 := blk_frozen BK461.out 2; have hfz48_3 := blk_frozen BK461.out 3; have hfz48_4 := blk_frozen BK461.out 4) | (go_at_call 19; (with_reducible refine (frame_Rank.calls a1_0 a1_1 a1_2 a1_3 _ _ l1_4 t470 _ ?side1 ?side2 A42.out).mono ?_); (case side1 => repeat (first | exact (Kd.C_below HR1_4.out HB.out) | (with_reducible refine Kd.C_alloc ?_ _) | (with_reducible refine Kd.C_drewN ?_ _) | (with_reducible refine Kd.C_drew ?_))); (case side2 => exact HC1_4.out); rintro e w49 ⟨v471, rfl, ho0, hb⟩; have n0_ := Aside0.mk (Kd.R_elder' (by (with_reducible repeat (first | apply Kd.R_alloc | apply Kd.R_drewN | apply Kd.R_drew)); exact HO469.out) (Kd.R_base ho0) hb); have n1_ := Aside0.mk (Kd.R_lower (Kd.R_new' ho0 (Kd.R_lt (by (with_reducible repeat (first | apply Kd.R_alloc | apply Kd.R_drewN | apply Kd.R_drew)); exact HO469.out))) (below_size (by repeat (first | (with_reducible first | exact HB.out | apply below_alloc | apply pw_below_drewN | apply below_drew1 | refine below_set ?_ GE460.out | refine below_set ?_ GE461.out) | exact HB.out)))); have n2_ := Aside0.mk (blk_below (g := gb460) (o := .cells #[.bool a0_0, .int .i64 a0_1, .bool a0_2, .int .i64 a0_3, .slice A0_4 l0_4.length c0_4] 24 (0, 0)) (by (with_reducible repeat (first | refine blk_drewN ?_ _ | refine blk_drew ?_ | refine blk_alloc ?_ _)); exact BK460.out) hb); have n3_ := Aside0.mk (blk_below (g := gb461) (o := .cells #[.bool a1_0, .int .i64 a1_1, .bool a1_2, .int .i64 a1_3, .slice A1_4 l1_4.length c1_4] 24 (0, 0)) (by (with_reducible repeat (first | refine blk_drewN ?_ _ | refine blk_drew ?_ | refine blk_alloc ?_ _)); exact BK461.out) hb); have n4_ := Aside0.mk (below_step (by repeat (first | (with_reducible first | exact HB.out | apply below_alloc | apply pw_below_drewN | apply below_drew1 | refine below_set ?_ GE460.out | refine below_set ?_ GE461.out) | exact HB.out)) hb); clear HO469; clear BK460; clear BK461; clear HB; have HO469 := n0_; have HO472 := n1_; have BK460 := n2_; have BK461 := n3_; have HB := n4_; clear n0_ n1_ n2_ n3_ n4_; (try clear hb); (try clear hb2); (try clear hk); (try clear hi); (try clear ho0); have hcz50_0 : w49.cell? ⟨gb460, 0, none⟩ = some (.bool a0_0) := (blk_cell BK460.out 0).trans rfl; have hcz50_1 : w49.cell? ⟨gb460, 1, none⟩ = some (.int .i64 a0_1) := (blk_cell BK460.out 1).trans rfl; have hcz50_2 : w49.cell? ⟨gb460, 2, none⟩ = some (.bool a0_2) := (blk_cell BK460.out 2).trans rfl; have hcz50_3 : w49.cell? ⟨gb460, 3, none⟩ = some (.int .i64 a0_3) := (blk_cell BK460.out 3).trans rfl; have hcz50_4 : w49.cell? ⟨gb460, 4, none⟩ = some (.slice A0_4 l0_4.length c0_4) := (blk_cell BK460.out 4).trans rfl; have hfz50_0 := blk_frozen BK460.out 0; have hfz50_1 := blk_frozen BK460.out 1; have hfz50_2 := blk_frozen BK460.out 2; have hfz50_3 := blk_frozen BK460.out 3; have hfz50_4 := blk_frozen BK460.out 4) | (go_at_call 17; (with_reducible refine (frame_Head.calls a0_0 a0_1 a0_2 a0_3 _ _ l0_4 t473 _ ?side1 ?side2 A43.out).mono ?_); (case side1 => repeat (first | exact (Kd.C_below HR0_4.out HB.out) | (with_reducible refine Kd.C_alloc ?_ _) | (with_reducible refine Kd.C_drewN ?_ _) | (with_reducible refine Kd.C_drew ?_))); (case side2 => exact HC0_4.out); rintro e w51 ⟨v474, rfl, ho0, hb⟩; have n0_ := Aside0.mk (Kd.R_elder' (by (with_reducible repeat (first | apply Kd.R_alloc | apply Kd.R_drewN | apply Kd.R_drew)); exact HO469.out) (Kd.R_base ho0) hb); have n1_ := Aside0.mk (Kd.R_elder' (by (with_reducible repeat (first | apply Kd.R_alloc | apply Kd.R_drewN | apply Kd.R_drew)); exact HO472.out) (Kd.R_base ho0) hb); have n2_ := Aside0.mk (Kd.R_lower (Kd.R_new' (Kd.R_new' ho0 (Kd.R_lt (by (with_reducible repeat (first | apply Kd.R_alloc | apply Kd.R_drewN | apply Kd.R_drew)); exact HO469.out))) (Kd.R_lt (by (with_reducible repeat (first | apply Kd.R_alloc | apply Kd.R_drewN | apply Kd.R_drew)); exact HO472.out))) (below_size (by repeat (first | (with_reducible first | exact HB.out | apply below_alloc | apply pw_below_drewN | apply below_drew1 | refine below_set ?_ GE460.out | refine below_set ?_ GE461.out) | exact HB.out)))); have n3_ := Aside0.mk (blk_below (g := gb460) (o := .cells #[.bool a0_0, .int .i64 a0_1, .bool a0_2, .int .i64 a0_3, .slice A0_4 l0_4.length c0_4] 24 (0, 0)) (by (with_reducible repeat (first | refine blk_drewN ?_ _ | refine blk_drew ?_ | refine blk_alloc ?_ _)); exact BK460.out) hb); have n4_ := Aside0.mk (blk_below (g := gb461) (o := .cells #[.bool a1_0, .int .i64 a1_1, .bool a1_2, .int .i64 a1_3, .slice A1_4 l1_4.length c1_4] 24 (0, 0)) (by (with_reducible repeat (first | refine blk_drewN ?_ _ | refine blk_drew ?_ | refine blk_alloc ?_ _)); exact BK461.out) hb); have n5_ := Aside0.mk (below_step (by repeat (first | (with_reducible first | exact HB.out | apply below_alloc | apply pw_below_drewN | apply below_drew1 | refine below_set ?_ GE460.out | refine below_set ?_ GE461.out) | exact HB.out)) hb); clear HO469; clear HO472; clear BK460; clear BK461; clear HB; have HO469 := n0_; have HO472 := n1_; have HO475 := n2_; have BK460 := n3_; have BK461 := n4_; have HB := n5_; clear n0_ n1_ n2_ n3_ n4_ n5_; (try clear hb); (try clear hb2); (try clear hk); (try clear hi); (try clear ho0)))
        repeat (go_quiet (first | (go_at_call 19; (with_reducible refine (frame_Rank.calls a0_0 a0_1 a0_2 a0_3 _ _ l0_4 t467 _ ?side1 ?side2 A41.out).mono ?_); (case side1 => repeat (first | exact (Kd.C_below HR0_4.out HB.out) | (with_reducible refine Kd.C_alloc ?_ _) | (with_reducible refine Kd.C_drewN ?_ _) | (with_reducible refine Kd.C_drew ?_))); (case side2 => exact HC0_4.out); rintro e w47 ⟨v468, rfl, ho0, hb⟩; have n0_ := Aside0.mk (Kd.R_lower ho0 (below_size (by repeat (first | (with_reducible first | exact HB.out | apply below_alloc | apply pw_below_drewN | apply below_drew1 | refine below_set ?_ GE460.out | refine below_set ?_ GE461.out) | exact HB.out)))); have n1_ := Aside0.mk (blk_below (g := gb460) (o := .cells #[.bool a0_0, .int .i64 a0_1, .bool a0_2, .int .i64 a0_3, .slice A0_4 l0_4.length c0_4] 24 (0, 0)) (by (with_reducible repeat (first | refine blk_drewN ?_ _ | refine blk_drew ?_ | refine blk_alloc ?_ _)); exact BK460.out) hb); have n2_ := Aside0.mk (blk_below (g := gb461) (o := .cells #[.bool a1_0, .int .i64 a1_1, .bool a1_2, .int .i64 a1_3, .slice A1_4 l1_4.length c1_4] 24 (0, 0)) (by (with_reducible repeat (first | refine blk_drewN ?_ _ | refine blk_drew ?_ | refine blk_alloc ?_ _)); exact BK461.out) hb); have n3_ := Aside0.mk (below_step (by repeat (first | (with_reducible first | exact HB.out | apply below_alloc | apply pw_below_drewN | apply below_drew1 | refine below_set ?_ GE460.out | refine below_set ?_ GE461.out) | exact HB.out)) hb); clear BK460; clear BK461; clear HB; have HO469 := n0_; have BK460 := n1_; have BK461 := n2_; have HB := n3_; clear n0_ n1_ n2_ n3_; (try clear hb); (try clear hb2); (try clear hk); (try clear hi); (try clear ho0); have hcz48_0 : w47.cell? ⟨gb461, 0, none⟩ = some (.bool a1_0) := (blk_cell BK461.out 0).trans rfl; have hcz48_1 : w47.cell? ⟨gb461, 1, none⟩ = some (.int .i64 a1_1) := (blk_cell BK461.out 1).trans rfl; have hcz48_2 : w47.cell? ⟨gb461, 2, none⟩ = some (.bool a1_2) := (blk_cell BK461.out 2).trans rfl; have hcz48_3 : w47.cell? ⟨gb461, 3, none⟩ = some (.int .i64 a1_3) := (blk_cell BK461.out 3).trans rfl; have hcz48_4 : w47.cell? ⟨gb461, 4, none⟩ = some (.slice A1_4 l1_4.length c1_4) := (blk_cell BK461.out 4).trans rfl; have hfz48_0 := blk_frozen BK461.out 0; have hfz48_1 := blk_frozen BK461.out 1; have hfz48_2 := blk_frozen BK461.out 2; have hfz48_3 := blk_frozen BK461.out 3; have hfz48_4 := blk_frozen BK461.out 4) | (go_at_call 19; (with_reducible refine (frame_Rank.calls a1_0 a1_1 a1_2 a1_3 _ _ l1_4 t470 _ ?side1 ?side2 A42.out).mono ?_); (case side1 => repeat (first | exact (Kd.C_below HR1_4.out HB.out) | (with_reducible refine Kd.C_alloc ?_ _) | (with_reducible refine Kd.C_drewN ?_ _) | (with_reducible refine Kd.C_drew ?_))); (case side2 => exact HC1_4.out); rintro e w49 ⟨v471, rfl, ho0, hb⟩; have n0_ := Aside0.mk (Kd.R_elder' (by (with_reducible repeat (first | apply Kd.R_alloc | apply Kd.R_drewN | apply Kd.R_drew)); exact HO469.out) (Kd.R_base ho0) hb); have n1_ := Aside0.mk (Kd.R_lower (Kd.R_new' ho0 (Kd.R_lt (by (with_reducible repeat (first | apply Kd.R_alloc | apply Kd.R_drewN | apply Kd.R_drew)); exact HO469.out))) (below_size (by repeat (first | (with_reducible first | exact HB.out | apply below_alloc | apply pw_below_drewN | apply below_drew1 | refine below_set ?_ GE460.out | refine below_set ?_ GE461.out) | exact HB.out)))); have n2_ := Aside0.mk (blk_below (g := gb460) (o := .cells #[.bool a0_0, .int .i64 a0_1, .bool a0_2, .int .i64 a0_3, .slice A0_4 l0_4.length c0_4] 24 (0, 0)) (by (with_reducible repeat (first | refine blk_drewN ?_ _ | refine blk_drew ?_ | refine blk_alloc ?_ _)); exact BK460.out) hb); have n3_ := Aside0.mk (blk_below (g := gb461) (o := .cells #[.bool a1_0, .int .i64 a1_1, .bool a1_2, .int .i64 a1_3, .slice A1_4 l1_4.length c1_4] 24 (0, 0)) (by (with_reducible repeat (first | refine blk_drewN ?_ _ | refine blk_drew ?_ | refine blk_alloc ?_ _)); exact BK461.out) hb); have n4_ := Aside0.mk (below_step (by repeat (first | (with_reducible first | exact HB.out | apply below_alloc | apply pw_below_drewN | apply below_drew1 | refine below_set ?_ GE460.out | refine below_set ?_ GE461.out) | exact HB.out)) hb); clear HO469; clear BK460; clear BK461; clear HB; have HO469 := n0_; have HO472 := n1_; have BK460 := n2_; have BK461 := n3_; have HB := n4_; clear n0_ n1_ n2_ n3_ n4_; (try clear hb); (try clear hb2); (try clear hk); (try clear hi); (try clear ho0); have hcz50_0 : w49.cell? ⟨gb460, 0, none⟩ = some (.bool a0_0) := (blk_cell BK460.out 0).trans rfl; have hcz50_1 : w49.cell? ⟨gb460, 1, none⟩ = some (.int .i64 a0_1) := (blk_cell BK460.out 1).trans rfl; have hcz50_2 : w49.cell? ⟨gb460, 2, none⟩ = some (.bool a0_2) := (blk_cell BK460.out 2).trans rfl; have hcz50_3 : w49.cell? ⟨gb460, 3, none⟩ = some (.int .i64 a0_3) := (blk_cell BK460.out 3).trans rfl; have hcz50_4 : w49.cell? ⟨gb460, 4, none⟩ = some (.slice A0_4 l0_4.length c0_4) := (blk_cell BK460.out 4).trans rfl; have hfz50_0 := blk_frozen BK460.out 0; have hfz50_1 := blk_frozen BK460.out 1; have hfz50_2 := blk_frozen BK460.out 2; have hfz50_3 := blk_frozen BK460.out 3; have hfz50_4 := blk_frozen BK460.out 4) | (go_at_call 17; (with_reducible refine (frame_Head.calls a0_0 a0_1 a0_2 a0_3 _ _ l0_4 t473 _ ?side1 ?side2 A43.out).mono ?_); (case side1 => repeat (first | exact (Kd.C_below HR0_4.out HB.out) | (with_reducible refine Kd.C_alloc ?_ _) | (with_reducible refine Kd.C_drewN ?_ _) | (with_reducible refine Kd.C_drew ?_))); (case side2 => exact HC0_4.out); rintro e w51 ⟨v474, rfl, ho0, hb⟩; have n0_ := Aside0.mk (Kd.R_elder' (by (with_reducible repeat (first | apply Kd.R_alloc | apply Kd.R_drewN | apply Kd.R_drew)); exact HO469.out) (Kd.R_base ho0) hb); have n1_ := Aside0.mk (Kd.R_elder' (by (with_reducible repeat (first | apply Kd.R_alloc | apply Kd.R_drewN | apply Kd.R_drew)); exact HO472.out) (Kd.R_base ho0) hb); have n2_ := Aside0.mk (Kd.R_lower (Kd.R_new' (Kd.R_new' ho0 (Kd.R_lt (by (with_reducible repeat (first | apply Kd.R_alloc | apply Kd.R_drewN | apply Kd.R_drew)); exact HO469.out))) (Kd.R_lt (by (with_reducible repeat (first | apply Kd.R_alloc | apply Kd.R_drewN | apply Kd.R_drew)); exact HO472.out))) (below_size (by repeat (first | (with_reducible first | exact HB.out | apply below_alloc | apply pw_below_drewN | apply below_drew1 | refine below_set ?_ GE460.out | refine below_set ?_ GE461.out) | exact HB.out)))); have n3_ := Aside0.mk (blk_below (g := gb460) (o := .cells #[.bool a0_0, .int .i64 a0_1, .bool a0_2, .int .i64 a0_3, .slice A0_4 l0_4.length c0_4] 24 (0, 0)) (by (with_reducible repeat (first | refine blk_drewN ?_ _ | refine blk_drew ?_ | refine blk_alloc ?_ _)); exact BK460.out) hb); have n4_ := Aside0.mk (blk_below (g := gb461) (o := .cells #[.bool a1_0, .int .i64 a1_1, .bool a1_2, .int .i64 a1_3, .slice A1_4 l1_4.length c1_4] 24 (0, 0)) (by (with_reducible repeat (first | refine blk_drewN ?_ _ | refine blk_drew ?_ | refine blk_alloc ?_ _)); exact BK461.out) hb); have n5_ := Aside0.mk (below_step (by repeat (first | (with_reducible first | exact HB.out | apply below_alloc | apply pw_below_drewN | apply below_drew1 | refine below_set ?_ GE460.out | refine below_set ?_ GE461.out) | exact HB.out)) hb); clear HO469; clear HO472; clear BK460; clear BK461; clear HB; have HO469 := n0_; have HO472 := n1_; have HO475 := n2_; have BK460 := n3_; have BK461 := n4_; have HB := n5_; clear n0_ n1_ n2_ n3_ n4_ n5_; (try clear hb); (try clear hb2); (try clear hk); (try clear hi); (try clear ho0))); go_upto_region 7 with (first | (go_at_call 19; (with_reducible refine (frame_Rank.calls a0_0 a0_1 a0_2 a0_3 _ _ l0_4 t467 _ ?side1 ?side2 A41.out).mono ?_); (case side1 => repeat (first | exact (Kd.C_below HR0_4.out HB.out) | (with_reducible refine Kd.C_alloc ?_ _) | (with_reducible refine Kd.C_drewN ?_ _) | (with_reducible refine Kd.C_drew ?_))); (case side2 => exact HC0_4.out); rintro e w47 ⟨v468, rfl, ho0, hb⟩; have n0_ := Aside0.mk (Kd.R_lower ho0 (below_size (by repeat (first | (with_reducible first | exact HB.out | apply below_alloc | apply pw_below_drewN | apply below_drew1 | refine below_set ?_ GE460.out | refine below_set ?_ GE461.out) | exact HB.out)))); have n1_ := Aside0.mk (blk_below (g := gb460) (o := .cells #[.bool a0_0, .int .i64 a0_1, .bool a0_2, .int .i64 a0_3, .slice A0_4 l0_4.length c0_4] 24 (0, 0)) (by (with_reducible repeat (first | refine blk_drewN ?_ _ | refine blk_drew ?_ | refine blk_alloc ?_ _)); exact BK460.out) hb); have n2_ := Aside0.mk (blk_below (g := gb461) (o := .cells #[.bool a1_0, .int .i64 a1_1, .bool a1_2, .int .i64 a1_3, .slice A1_4 l1_4.length c1_4] 24 (0, 0)) (by (with_reducible repeat (first | refine blk_drewN ?_ _ | refine blk_drew ?_ | refine blk_alloc ?_ _)); exact BK461.out) hb); have n3_ := Aside0.mk (below_step (by repeat (first | (with_reducible first | exact HB.out | apply below_alloc | apply pw_below_drewN | apply below_drew1 | refine below_set ?_ GE460.out | refine below_set ?_ GE461.out) | exact HB.out)) hb); clear BK460; clear BK461; clear HB; have HO469 := n0_; have BK460 := n1_; have BK461 := n2_; have HB := n3_; clear n0_ n1_ n2_ n3_; (try clear hb); (try clear hb2); (try clear hk); (try clear hi); (try clear ho0); have hcz48_0 : w47.cell? ⟨gb461, 0, none⟩ = some (.bool a1_0) := (blk_cell BK461.out 0).trans rfl; have hcz48_1 : w47.cell? ⟨gb461, 1, none⟩ = some (.int .i64 a1_1) := (blk_cell BK461.out 1).trans rfl; have hcz48_2 : w47.cell? ⟨gb461, 2, none⟩ = some (.bool a1_2) := (blk_cell BK461.out 2).trans rfl; have hcz48_3 : w47.cell? ⟨gb461, 3, none⟩ = some (.int .i64 a1_3) := (blk_cell BK461.out 3).trans rfl; have hcz48_4 : w47.cell? ⟨gb461, 4, none⟩ = some (.slice A1_4 l1_4.length c1_4) := (blk_cell BK461.out 4).trans rfl; have hfz48_0 := blk_frozen BK461.out 0; have hfz48_1 := blk_frozen BK461.out 1; have hfz48_2 := blk_frozen BK461.out 2; have hfz48_3 := blk_frozen BK461.out 3; have hfz48_4 := blk_frozen BK461.out 4) | (go_at_call 19; (with_reducible refine (frame_Rank.calls a1_0 a1_1 a1_2 a1_3 _ _ l1_4 t470 _ ?side1 ?side2 A42.out).mono ?_); (case side1 => repeat (first | exact (Kd.C_below HR1_4.out HB.out) | (with_reducible refine Kd.C_alloc ?_ _) | (with_reducible refine Kd.C_drewN ?_ _) | (with_reducible refine Kd.C_drew ?_))); (case side2 => exact HC1_4.out); rintro e w49 ⟨v471, rfl, ho0, hb⟩; have n0_ := Aside0.mk (Kd.R_elder' (by (with_reducible repeat (first | apply Kd.R_alloc | apply Kd.R_drewN | apply Kd.R_drew)); exact HO469.out) (Kd.R_base ho0) hb); have n1_ := Aside0.mk (Kd.R_lower (Kd.R_new' ho0 (Kd.R_lt (by (with_reducible repeat (first | apply Kd.R_alloc | apply Kd.R_drewN | apply Kd.R_drew)); exact HO469.out))) (below_size (by repeat (first | (with_reducible first | exact HB.out | apply below_alloc | apply pw_below_drewN | apply below_drew1 | refine below_set ?_ GE460.out | refine below_set ?_ GE461.out) | exact HB.out)))); have n2_ := Aside0.mk (blk_below (g := gb460) (o := .cells #[.bool a0_0, .int .i64 a0_1, .bool a0_2, .int .i64 a0_3, .slice A0_4 l0_4.length c0_4] 24 (0, 0)) (by (with_reducible repeat (first | refine blk_drewN ?_ _ | refine blk_drew ?_ | refine blk_alloc ?_ _)); exact BK460.out) hb); have n3_ := Aside0.mk (blk_below (g := gb461) (o := .cells #[.bool a1_0, .int .i64 a1_1, .bool a1_2, .int .i64 a1_3, .slice A1_4 l1_4.length c1_4] 24 (0, 0)) (by (with_reducible repeat (first | refine blk_drewN ?_ _ | refine blk_drew ?_ | refine blk_alloc ?_ _)); exact BK461.out) hb); have n4_ := Aside0.mk (below_step (by repeat (first | (with_reducible first | exact HB.out | apply below_alloc | apply pw_below_drewN | apply below_drew1 | refine below_set ?_ GE460.out | refine below_set ?_ GE461.out) | exact HB.out)) hb); clear HO469; clear BK460; clear BK461; clear HB; have HO469 := n0_; have HO472 := n1_; have BK460 := n2_; have BK461 := n3_; have HB := n4_; clear n0_ n1_ n2_ n3_ n4_; (try clear hb); (try clear hb2); (try clear hk); (try clear hi); (try clear ho0); have hcz50_0 : w49.cell? ⟨gb460, 0, none⟩ = some (.bool a0_0) := (blk_cell BK460.out 0).trans rfl; have hcz50_1 : w49.cell? ⟨gb460, 1, none⟩ = some (.int .i64 a0_1) := (blk_cell BK460.out 1).trans rfl; have hcz50_2 : w49.cell? ⟨gb460, 2, none⟩ = some (.bool a0_2) := (blk_cell BK460.out 2).trans rfl; have hcz50_3 : w49.cell? ⟨gb460, 3, none⟩ = some (.int .i64 a0_3) := (blk_cell BK460.out 3).trans rfl; have hcz50_4 : w49.cell? ⟨gb460, 4, none⟩ = some (.slice A0_4 l0_4.length c0_4) := (blk_cell BK460.out 4).trans rfl; have hfz50_0 := blk_frozen BK460.out 0; have hfz50_1 := blk_frozen BK460.out 1; have hfz50_2 := blk_frozen BK460.out 2; have hfz50_3 := blk_frozen BK460.out 3; have hfz50_4 := blk_frozen BK460.out 4) | (go_at_call 17; (with_reducible refine (frame_Head.calls a0_0 a0_1 a0_2 a0_3 _ _ l0_4 t473 _ ?side1 ?side2 A43.out).mono ?_); (case side1 => repeat (first | exact (Kd.C_below HR0_4.out HB.out) | (with_reducible refine Kd.C_alloc ?_ _) | (with_reducible refine Kd.C_drewN ?_ _) | (with_reducible refine Kd.C_drew ?_))); (case side2 => exact HC0_4.out); rintro e w51 ⟨v474, rfl, ho0, hb⟩; have n0_ := Aside0.mk (Kd.R_elder' (by (with_reducible repeat (first | apply Kd.R_alloc | apply Kd.R_drewN | apply Kd.R_drew)); exact HO469.out) (Kd.R_base ho0) hb); have n1_ := Aside0.mk (Kd.R_elder' (by (with_reducible repeat (first | apply Kd.R_alloc | apply Kd.R_drewN | apply Kd.R_drew)); exact HO472.out) (Kd.R_base ho0) hb); have n2_ := Aside0.mk (Kd.R_lower (Kd.R_new' (Kd.R_new' ho0 (Kd.R_lt (by (with_reducible repeat (first | apply Kd.R_alloc | apply Kd.R_drewN | apply Kd.R_drew)); exact HO469.out))) (Kd.R_lt (by (with_reducible repeat (first | apply Kd.R_alloc | apply Kd.R_drewN | apply Kd.R_drew)); exact HO472.out))) (below_size (by repeat (first | (with_reducible first | exact HB.out | apply below_alloc | apply pw_below_drewN | apply below_drew1 | refine below_set ?_ GE460.out | refine below_set ?_ GE461.out) | exact HB.out)))); have n3_ := Aside0.mk (blk_below (g := gb460) (o := .cells #[.bool a0_0, .int .i64 a0_1, .bool a0_2, .int .i64 a0_3, .slice A0_4 l0_4.length c0_4] 24 (0, 0)) (by (with_reducible repeat (first | refine blk_drewN ?_ _ | refine blk_drew ?_ | refine blk_alloc ?_ _)); exact BK460.out) hb); have n4_ := Aside0.mk (blk_below (g := gb461) (o := .cells #[.bool a1_0, .int .i64 a1_1, .bool a1_2, .int .i64 a1_3, .slice A1_4 l1_4.length c1_4] 24 (0, 0)) (by (with_reducible repeat (first | refine blk_drewN ?_ _ | refine blk_drew ?_ | refine blk_alloc ?_ _)); exact BK461.out) hb); have n5_ := Aside0.mk (below_step (by repeat (first | (with_reducible first | exact HB.out | apply below_alloc | apply pw_below_drewN | apply below_drew1 | refine below_set ?_ GE460.out | refine below_set ?_ GE461.out) | exact HB.out)) hb); clear HO469; clear HO472; clear BK460; clear BK461; clear HB; have HO469 := n0_; have HO472 := n1_; have HO475 := n2_; have BK460 := n3_; have BK461 := n4_; have HB := n5_; clear n0_ n1_ n2_ n3_ n4_ n5_; (try clear hb); (try clear hb2); (try clear hk); (try clear hi); (try clear ho0))))
        (try simp only [Act.put, List.setIfInBounds_toArray, List.set_cons_zero, List.set_cons_succ])
        go_cut [67] (fun v67 wc => ∃ (kq : Nat) (x67_43 : Bool), v67 = .bool x67_43 ∧ Aside0 (phaetonlaw04_FrameRank.j1 kq t462 t467 t470 x67_43 a0_0 a0_1 a0_2 a0_3 l0_4 a1_0 a1_1 a1_2 a1_3 l1_4 = some r) ∧ Aside0 (kq ≤ kj3) ∧ Aside0 (Kd.R (Kd.int .i64) 3 wc w.heap.size (fun k_ => some k_ ≠ (v471 : Value).ownBlock) v468 t467) ∧ Aside0 (Kd.R (Kd.int .i64) 3 wc w.heap.size (fun k_ => some k_ ≠ (v468 : Value).ownBlock) v471 t470) ∧ Aside0 (wc.heap[gb460]? = some (.cells #[.bool a0_0, .int .i64 a0_1, .bool a0_2, .int .i64 a0_3, (.slice A0_4 l0_4.length c0_4)] 24 (0, 0))) ∧ Aside0 (wc.heap[gb461]? = some (.cells #[.bool a1_0, .int .i64 a1_1, .bool a1_2, .int .i64 a1_3, (.slice A1_4 l1_4.length c1_4)] 24 (0, 0))) ∧ Aside0 (Below w.heap.size w wc))
        case first =>
          have H := HC44.out
          clear HC44
          by_cases c52 : (t467.length : Int) = 13
          · rw [if_pos c52] at H
            have c52b0 : ((t467.length : Int) == 13) = true := beq_iff_eq.mpr c52
            have c52b1 : ((t467.length : Int) != 13) = false := bne_eq_false_iff_eq.mpr c52
            clear c52
            (first | rw [c52b0] | (simp only [i64_w, i32_w]; rw [c52b0]) | skip)
            by_cases c53 : (((t467.length : Int) == 32) != a0_0) = true
            · rw [if_pos c53] at H
              have c53b0 : (((t467.length : Int) == 32) != a0_0) = true := c53
              (try (have c53b1 : decide (((t467.length : Int) == 32) = a0_0) = false := by simpa using c53))
              (try (have c53b2 : (((t467.length : Int) == 32) == a0_0) = false := by simpa using c53))
              (try (have c53b3 : ¬ (((t467.length : Int) == 32) = a0_0) := by simpa using c53))
              clear c53
              have H' := Aside0.mk H
              clear H
              obtain ⟨Ao54, co54, eo54⟩ := Kd.R_slice HO469.out
              subst eo54
              have hnb55 := NB460_461.out
              have hnc55 := NB461_460.out
              have hcz56_0 : w51.cell? ⟨gb460, 0, none⟩ = some (.bool a0_0) := (blk_cell BK460.out 0).trans rfl
              have hcz56_1 : w51.cell? ⟨gb460, 1, none⟩ = some (.int .i64 a0_1) := (blk_cell BK460.out 1).trans rfl
              have hcz56_2 : w51.cell? ⟨gb460, 2, none⟩ = some (.bool a0_2) := (blk_cell BK460.out 2).trans rfl
              have hcz56_3 : w51.cell? ⟨gb460, 3, none⟩ = some (.int .i64 a0_3) := (blk_cell BK460.out 3).trans rfl
              have hcz56_4 : w51.cell? ⟨gb460, 4, none⟩ = some (.slice A0_4 l0_4.length c0_4) := (blk_cell BK460.out 4).trans rfl
              have hfz56_0 := blk_frozen BK460.out 0
              have hfz56_1 := blk_frozen BK460.out 1
              have hfz56_2 := blk_frozen BK460.out 2
              have hfz56_3 := blk_frozen BK460.out 3
              have hfz56_4 := blk_frozen BK460.out 4
              go_wp2
              repeat (go_quiet (fail); try go_wp2)
              go_meet
              case rel => exact ⟨_, (true), (by first | rfl | (simp; done) | (simp [*]; done)), H', ⟨by have := HJ3.out; first | omega | exact Nat.le_refl _⟩, ⟨by (with_reducible repeat (first | apply Kd.R_alloc | apply Kd.R_drewN | apply Kd.R_drew)); exact Kd.R_mono HO469.out (fun _ hk => hk.1.2)⟩, ⟨by (with_reducible repeat (first | apply Kd.R_alloc | apply Kd.R_drewN | apply Kd.R_drew)); exact Kd.R_mono HO472.out (fun _ hk => hk.1.2)⟩, ⟨by (with_reducible repeat (first | refine blk_drewN ?_ _ | refine blk_drew ?_ | refine blk_alloc ?_ _)); exact BK460.out⟩, ⟨by (with_reducible repeat (first | refine blk_drewN ?_ _ | refine blk_drew ?_ | refine blk_alloc ?_ _)); exact BK461.out⟩, ⟨by repeat (first | (with_reducible first | exact HB.out | apply below_alloc | apply pw_below_drewN | apply below_drew1 | refine below_set ?_ GE460.out | refine below_set ?_ GE461.out) | exact HB.out)⟩⟩
            · rw [if_neg c53] at H
              have c53b0 : (((t467.length : Int) == 32) != a0_0) = false := by simpa using c53
              (try (have c53b1 : decide (((t467.length : Int) == 32) = a0_0) = true := by simpa using c53))
              (try (have c53b2 : (((t467.length : Int) == 32) == a0_0) = true := by simpa using c53))
              clear c53
              by_cases c57 : (t473.length : Int) ≤ (t467.length : Int)
              · rw [if_pos c57] at H
                have c57b0 : decide ((t473.length : Int) ≤ (t467.length : Int)) = true := decide_eq_true c57
                have c57b1 : decide (t473.length ≤ t467.length) = true := decide_eq_true (Int.ofNat_le.mp c57)
                clear c57
                have H' := Aside0.mk H
                clear H
                obtain ⟨Ao58, co58, eo58⟩ := Kd.R_slice HO469.out
                subst eo58
                have hnb59 := NB460_461.out
                have hnc59 := NB461_460.out
                have hcz60_0 : w51.cell? ⟨gb460, 0, none⟩ = some (.bool a0_0) := (blk_cell BK460.out 0).trans rfl
                have hcz60_1 : w51.cell? ⟨gb460, 1, none⟩ = some (.int .i64 a0_1) := (blk_cell BK460.out 1).trans rfl
                have hcz60_2 : w51.cell? ⟨gb460, 2, none⟩ = some (.bool a0_2) := (blk_cell BK460.out 2).trans rfl
                have hcz60_3 : w51.cell? ⟨gb460, 3, none⟩ = some (.int .i64 a0_3) := (blk_cell BK460.out 3).trans rfl
                have hcz60_4 : w51.cell? ⟨gb460, 4, none⟩ = some (.slice A0_4 l0_4.length c0_4) := (blk_cell BK460.out 4).trans rfl
                have hfz60_0 := blk_frozen BK460.out 0
                have hfz60_1 := blk_frozen BK460.out 1
                have hfz60_2 := blk_frozen BK460.out 2
                have hfz60_3 := blk_frozen BK460.out 3
                have hfz60_4 := blk_frozen BK460.out 4
                obtain ⟨Ao61, co61, eo61⟩ := Kd.R_slice HO475.out
                subst eo61
                go_wp2
                repeat (go_quiet (fail); try go_wp2)
                go_meet
                case rel => exact ⟨_, (true), (by first | rfl | (simp; done) | (simp [*]; done)), H', ⟨by have := HJ3.out; first | omega | exact Nat.le_refl _⟩, ⟨by (with_reducible repeat (first | apply Kd.R_alloc | apply Kd.R_drewN | apply Kd.R_drew)); exact Kd.R_mono HO469.out (fun _ hk => hk.1.2)⟩, ⟨by (with_reducible repeat (first | apply Kd.R_alloc | apply Kd.R_drewN | apply Kd.R_drew)); exact Kd.R_mono HO472.out (fun _ hk => hk.1.2)⟩, ⟨by (with_reducible repeat (first | refine blk_drewN ?_ _ | refine blk_drew ?_ | refine blk_alloc ?_ _)); exact BK460.out⟩, ⟨by (with_reducible repeat (first | refine blk_drewN ?_ _ | refine blk_drew ?_ | refine blk_alloc ?_ _)); exact BK461.out⟩, ⟨by repeat (first | (with_reducible first | exact HB.out | apply below_alloc | apply pw_below_drewN | apply below_drew1 | refine below_set ?_ GE460.out | refine below_set ?_ GE461.out) | exact HB.out)⟩⟩
              · rw [if_neg c57] at H
                have c57b0 : decide ((t473.length : Int) ≤ (t467.length : Int)) = false := decide_eq_false c57
                have c57b1 : decide (t473.length ≤ t467.length) = false := decide_eq_false (fun h => c57 (Int.ofNat_le.mpr h))
                clear c57
                by_cases c62 : 1 ≤ (wrap64 (1 + (t467.length : Int)))
                · rw [if_pos c62] at H
                  have c62b0 := eq_true c62
                  have c62b1 : decide (1 ≤ (wrap64 (1 + (t467.length : Int)))) = true := decide_eq_true c62
                  by_cases c63 : (wrap64 (1 + (t467.length : Int))) ≤ (t473.length : Int)
                  · rw [if_pos c63] at H
                    have c63b0 := eq_true c63
                    have c63b1 : decide ((wrap64 (1 + (t467.length : Int))) ≤ (t473.length : Int)) = true := decide_eq_true c63
                    obtain ⟨y476, hy476⟩ : ∃ y_ : List Int, y_ = ((t473.take ((wrap64 (1 + (t467.length : Int))) : Int).toNat).drop 1) := ⟨_, rfl⟩
                    replace H : ((phaetonref01_Same.f kj3 y476 t467).bind fun t480 => (phaetonlaw04_FrameRank.j1 kj3 t462 t467 t470 (!t480) a0_0 a0_1 a0_2 a0_3 l0_4 a1_0 a1_1 a1_2 a1_3 l1_4)) = some r := by first | (rw [hy476]; with_reducible exact H) | (have H2_ := (Option.bind_some _ _).symm.trans H; rw [hy476]; with_reducible exact H2_) | (have H2_ := (Option.bind_some _ _).symm.trans H; with_reducible exact H2_) | with_reducible exact H | (rw [hy476]; exact H) | exact H
                    have Ny476 := Aside0.mk hy476
                    clear hy476
                    replace H := Option.bind_eq_some_iff.mp H
                    obtain ⟨t480, A640, H⟩ := H
                    replace H : (phaetonlaw04_FrameRank.j1 kj3 t462 t467 t470 (!t480) a0_0 a0_1 a0_2 a0_3 l0_4 a1_0 a1_1 a1_2 a1_3 l1_4) = some r := H
                    have A64 := Aside0.mk A640
                    clear A640
                    have H' := Aside0.mk H
                    clear H
                    obtain ⟨Ao65, co65, eo65⟩ := Kd.R_slice HO469.out
                    subst eo65
                    have hnb66 := NB460_461.out
                    have hnc66 := NB461_460.out
                    have hcz67_0 : w51.cell? ⟨gb460, 0, none⟩ = some (.bool a0_0) := (blk_cell BK460.out 0).trans rfl
                    have hcz67_1 : w51.cell? ⟨gb460, 1, none⟩ = some (.int .i64 a0_1) := (blk_cell BK460.out 1).trans rfl
                    have hcz67_2 : w51.cell? ⟨gb460, 2, none⟩ = some (.bool a0_2) := (blk_cell BK460.out 2).trans rfl
                    have hcz67_3 : w51.cell? ⟨gb460, 3, none⟩ = some (.int .i64 a0_3) := (blk_cell BK460.out 3).trans rfl
                    have hcz67_4 : w51.cell? ⟨gb460, 4, none⟩ = some (.slice A0_4 l0_4.length c0_4) := (blk_cell BK460.out 4).trans rfl
                    have hfz67_0 := blk_frozen BK460.out 0
                    have hfz67_1 := blk_frozen BK460.out 1
                    have hfz67_2 := blk_frozen BK460.out 2
                    have hfz67_3 := blk_frozen BK460.out 3
                    have hfz67_4 := blk_frozen BK460.out 4
                    obtain ⟨Ao68, co68, eo68⟩ := Kd.R_slice HO475.out
                    subst eo68
                    have q69 : ((wrap64 (1 + (t467.length : Int))) : Int) ≤ ((t473.length : Int) : Int) := of_decide_eq_true (by first | (with_reducible assumption) | assumption)
                    obtain ⟨i069, hi069, _, hsz69, _⟩ := info_parts info3
                    have hroom69 : t473.length ≤ co68 := (Kd.R_reads' HO475.out).2.1
                    have hC69 : Kd.C (Kd.int .i64) _ Ao68 t473.length t473 := (Kd.R_reads' HO475.out).2.2
                    have ql69 : (1 : Int) ≤ ((wrap64 (1 + (t467.length : Int))) : Int) := of_decide_eq_true (by first | (with_reducible assumption) | assumption)
                    have hcut69 := cut_mid (P := Try.prog) 25 3 .i64 .i64 Try.underlying25 hi069 1 hsz69 Ao68 t473.length co68 1 (wrap64 (1 + (t467.length : Int))) (by omega) ql69 q69 hroom69
                    have hr69 := Kd.C_mid (lo := (1 : Int).toNat) (hi := ((wrap64 (1 + (t467.length : Int))) : Int).toNat) (c := co68) hC69 (by omega) (by omega) hroom69
                    obtain ⟨A69, hA69⟩ : ∃ A1, A1 = (if co68 = (1 : Int).toNat then Ao68 else (Ao68 : Option Addr).map (·.add ((1 : Int).toNat * 1))) := ⟨_, rfl⟩
                    obtain ⟨c69, hc69⟩ : ∃ c1, c1 = co68 - (1 : Int).toNat := ⟨_, rfl⟩
                    have hy69 : y476.length = ((wrap64 (1 + (t467.length : Int))) : Int).toNat - (1 : Int).toNat := (by rw [Ny476.out]; exact framerank_cut _ _ 1 (of_decide_eq_true (by first | (with_reducible assumption) | assumption)))
                    rw [show ((t473).take ((wrap64 (1 + (t467.length : Int))) : Int).toNat).drop (1 : Int).toNat = y476 from Ny476.out.symm] at hr69
                    replace hr69 : Kd.C (Kd.int .i64) _ A69 y476.length y476 := (by rw [hA69]; exact hr69)
                    rw [← hy69, ← hA69, ← hc69] at hcut69
                    have HR479 := Aside0.mk hr69
                    have HC479 := Aside0.mk (show y476.length ≤ c69 from by rw [hy69, hc69]; exact Nat.sub_le_sub_right (Nat.le_trans (by omega) hroom69) _)
                    clear hr69 hC69 hroom69 hi069 hsz69 hc69
                    have KY69 := Aside0.mk hy69
                    have KA69 := Aside0.mk hA69
                    clear hy69 hA69
                    have KL69 := Aside0.mk (show ((wrap64 (1 + (t467.length : Int))) : Int).toNat ≤ t473.length from by omega)
                    have KM69 := Aside0.mk (show 1 ≤ ((wrap64 (1 + (t467.length : Int))) : Int).toNat from by omega)
                    replace q69 := eq_true q69
                    go_wp2_with (first | (go_at_call 16; (with_reducible refine (phaetonref01_Same.calls kj3 _ _ y476 _ _ t467 t480 _ ?side1 ?side2 ?side3 ?side4 A64.out).mono ?_); (case side1 => repeat (first | exact (by repeat (first | (with_reducible exact HR479.out) | (with_reducible refine Kd.C_alloc ?_ _) | (with_reducible refine Kd.C_drewN ?_ _) | (with_reducible refine Kd.C_drew ?_) | exact HR479.out)) | (with_reducible refine Kd.C_alloc ?_ _) | (with_reducible refine Kd.C_drewN ?_ _) | (with_reducible refine Kd.C_drew ?_))); (case side2 => exact HC479.out); (case side3 => repeat (first | exact (Kd.R_reads' HO469.out).2.2 | (with_reducible refine Kd.C_alloc ?_ _) | (with_reducible refine Kd.C_drewN ?_ _) | (with_reducible refine Kd.C_drew ?_))); (case side4 => exact (Kd.R_reads' HO469.out).2.1); rintro e w' ⟨rfl, ⟨nd, rfl⟩⟩; (try first | exact ⟨rfl, _, World.drewN_drewN _ _ _⟩ | exact ⟨rfl, _, Eq.trans (World.drewN_drewN _ _ _) (congrArg (World.drewN _) (Nat.add_assoc _ _ _))⟩)))
                    repeat (go_quiet (first | (go_at_call 16; (with_reducible refine (phaetonref01_Same.calls kj3 _ _ y476 _ _ t467 t480 _ ?side1 ?side2 ?side3 ?side4 A64.out).mono ?_); (case side1 => repeat (first | exact (by repeat (first | (with_reducible exact HR479.out) | (with_reducible refine Kd.C_alloc ?_ _) | (with_reducible refine Kd.C_drewN ?_ _) | (with_reducible refine Kd.C_drew ?_) | exact HR479.out)) | (with_reducible refine Kd.C_alloc ?_ _) | (with_reducible refine Kd.C_drewN ?_ _) | (with_reducible refine Kd.C_drew ?_))); (case side2 => exact HC479.out); (case side3 => repeat (first | exact (Kd.R_reads' HO469.out).2.2 | (with_reducible refine Kd.C_alloc ?_ _) | (with_reducible refine Kd.C_drewN ?_ _) | (with_reducible refine Kd.C_drew ?_))); (case side4 => exact (Kd.R_reads' HO469.out).2.1); rintro e w' ⟨rfl, ⟨nd, rfl⟩⟩; (try first | exact ⟨rfl, _, World.drewN_drewN _ _ _⟩ | exact ⟨rfl, _, Eq.trans (World.drewN_drewN _ _ _) (congrArg (World.drewN _) (Nat.add_assoc _ _ _))⟩))); try go_wp2_with (first | (go_at_call 16; (with_reducible refine (phaetonref01_Same.calls kj3 _ _ y476 _ _ t467 t480 _ ?side1 ?side2 ?side3 ?side4 A64.out).mono ?_); (case side1 => repeat (first | exact (by repeat (first | (with_reducible exact HR479.out) | (with_reducible refine Kd.C_alloc ?_ _) | (with_reducible refine Kd.C_drewN ?_ _) | (with_reducible refine Kd.C_drew ?_) | exact HR479.out)) | (with_reducible refine Kd.C_alloc ?_ _) | (with_reducible refine Kd.C_drewN ?_ _) | (with_reducible refine Kd.C_drew ?_))); (case side2 => exact HC479.out); (case side3 => repeat (first | exact (Kd.R_reads' HO469.out).2.2 | (with_reducible refine Kd.C_alloc ?_ _) | (with_reducible refine Kd.C_drewN ?_ _) | (with_reducible refine Kd.C_drew ?_))); (case side4 => exact (Kd.R_reads' HO469.out).2.1); rintro e w' ⟨rfl, ⟨nd, rfl⟩⟩; (try first | exact ⟨rfl, _, World.drewN_drewN _ _ _⟩ | exact ⟨rfl, _, Eq.trans (World.drewN_drewN _ _ _) (congrArg (World.drewN _) (Nat.add_assoc _ _ _))⟩))))
                    go_meet
                    case rel => exact ⟨_, (!t480), (by first | rfl | (simp; done) | (simp [*]; done)), H', ⟨by have := HJ3.out; first | omega | exact Nat.le_refl _⟩, ⟨by (with_reducible repeat (first | apply Kd.R_alloc | apply Kd.R_drewN | apply Kd.R_drew)); exact Kd.R_mono HO469.out (fun _ hk => hk.1.2)⟩, ⟨by (with_reducible repeat (first | apply Kd.R_alloc | apply Kd.R_drewN | apply Kd.R_drew)); exact Kd.R_mono HO472.out (fun _ hk => hk.1.2)⟩, ⟨by (with_reducible repeat (first | refine blk_drewN ?_ _ | refine blk_drew ?_ | refine blk_alloc ?_ _)); exact BK460.out⟩, ⟨by (with_reducible repeat (first | refine blk_drewN ?_ _ | refine blk_drew ?_ | refine blk_alloc ?_ _)); exact BK461.out⟩, ⟨by repeat (first | (with_reducible first | exact HB.out | apply below_alloc | apply pw_below_drewN | apply below_drew1 | refine below_set ?_ GE460.out | refine below_set ?_ GE461.out) | exact HB.out)⟩⟩
                  · rw [if_neg c63] at H
                    exact absurd H (by simp)
                · rw [if_neg c62] at H
                  exact absurd H (by simp)
          · rw [if_neg c52] at H
            have c52b0 : ((t467.length : Int) == 13) = false := beq_eq_false_iff_ne.mpr c52
            have c52b1 : ((t467.length : Int) != 13) = true := bne_iff_ne.mpr c52
            (first | rw [c52b0] | (simp only [i64_w, i32_w]; rw [c52b0]) | skip)
            by_cases c70 : (t467.length : Int) = 32
            · rw [if_pos c70] at H
              have c70b0 : ((t467.length : Int) == 32) = true := beq_iff_eq.mpr c70
              have c70b1 : ((t467.length : Int) != 32) = false := bne_eq_false_iff_eq.mpr c70
              clear c70
              by_cases c71 : (((t467.length : Int) == 32) != a0_0) = true
              · rw [if_pos c71] at H
                have c71b0 : (((t467.length : Int) == 32) != a0_0) = true := c71
                (try (have c71b1 : decide (((t467.length : Int) == 32) = a0_0) = false := by simpa using c71))
                (try (have c71b2 : (((t467.length : Int) == 32) == a0_0) = false := by simpa using c71))
                (try (have c71b3 : ¬ (((t467.length : Int) == 32) = a0_0) := by simpa using c71))
                clear c71
                have c71b4 : a0_0 = false := (by have h_ := c71b0; rw [c70b0] at h_; simpa using h_)
                (try clear c71b0)
                (try clear c71b1)
                (try clear c71b2)
                (try clear c71b3)
                subst c71b4
                have H' := Aside0.mk H
                clear H
                obtain ⟨Ao72, co72, eo72⟩ := Kd.R_slice HO469.out
                subst eo72
                have hnb73 := NB460_461.out
                have hnc73 := NB461_460.out
                have hcz74_0 : w51.cell? ⟨gb460, 0, none⟩ = some (.bool false) := (blk_cell BK460.out 0).trans rfl
                have hcz74_1 : w51.cell? ⟨gb460, 1, none⟩ = some (.int .i64 a0_1) := (blk_cell BK460.out 1).trans rfl
                have hcz74_2 : w51.cell? ⟨gb460, 2, none⟩ = some (.bool a0_2) := (blk_cell BK460.out 2).trans rfl
                have hcz74_3 : w51.cell? ⟨gb460, 3, none⟩ = some (.int .i64 a0_3) := (blk_cell BK460.out 3).trans rfl
                have hcz74_4 : w51.cell? ⟨gb460, 4, none⟩ = some (.slice A0_4 l0_4.length c0_4) := (blk_cell BK460.out 4).trans rfl
                have hfz74_0 := blk_frozen BK460.out 0
                have hfz74_1 := blk_frozen BK460.out 1
                have hfz74_2 := blk_frozen BK460.out 2
                have hfz74_3 := blk_frozen BK460.out 3
                have hfz74_4 := blk_frozen BK460.out 4
                go_wp2
                repeat (go_quiet (fail); try go_wp2)
                go_meet
                case rel => exact ⟨_, (true), (by first | rfl | (simp; done) | (simp [*]; done)), H', ⟨by have := HJ3.out; first | omega | exact Nat.le_refl _⟩, ⟨by (with_reducible repeat (first | apply Kd.R_alloc | apply Kd.R_drewN | apply Kd.R_drew)); exact Kd.R_mono HO469.out (fun _ hk => hk.1.2)⟩, ⟨by (with_reducible repeat (first | apply Kd.R_alloc | apply Kd.R_drewN | apply Kd.R_drew)); exact Kd.R_mono HO472.out (fun _ hk => hk.1.2)⟩, ⟨by (with_reducible repeat (first | refine blk_drewN ?_ _ | refine blk_drew ?_ | refine blk_alloc ?_ _)); exact BK460.out⟩, ⟨by (with_reducible repeat (first | refine blk_drewN ?_ _ | refine blk_drew ?_ | refine blk_alloc ?_ _)); exact BK461.out⟩, ⟨by repeat (first | (with_reducible first | exact HB.out | apply below_alloc | apply pw_below_drewN | apply below_drew1 | refine below_set ?_ GE460.out | refine below_set ?_ GE461.out) | exact HB.out)⟩⟩
              · rw [if_neg c71] at H
                have c71b0 : (((t467.length : Int) == 32) != a0_0) = false := by simpa using c71
                (try (have c71b1 : decide (((t467.length : Int) == 32) = a0_0) = true := by simpa using c71))
                (try (have c71b2 : (((t467.length : Int) == 32) == a0_0) = true := by simpa using c71))
                clear c71
                have c71b4 : a0_0 = true := (by have h_ := c71b0; rw [c70b0] at h_; simpa using h_)
                (try clear c71b0)
                (try clear c71b1)
                (try clear c71b2)
                (try clear c71b3)
                subst c71b4
                by_cases c75 : (t473.length : Int) ≤ (t467.length : Int)
                · rw [if_pos c75] at H
                  have c75b0 : decide ((t473.length : Int) ≤ (t467.length : Int)) = true := decide_eq_true c75
                  have c75b1 : decide (t473.length ≤ t467.length) = true := decide_eq_true (Int.ofNat_le.mp c75)
                  clear c75
                  have H' := Aside0.mk H
                  clear H
                  obtain ⟨Ao76, co76, eo76⟩ := Kd.R_slice HO469.out
                  subst eo76
                  have hnb77 := NB460_461.out
                  have hnc77 := NB461_460.out
                  have hcz78_0 : w51.cell? ⟨gb460, 0, none⟩ = some (.bool true) := (blk_cell BK460.out 0).trans rfl
                  have hcz78_1 : w51.cell? ⟨gb460, 1, none⟩ = some (.int .i64 a0_1) := (blk_cell BK460.out 1).trans rfl
                  have hcz78_2 : w51.cell? ⟨gb460, 2, none⟩ = some (.bool a0_2) := (blk_cell BK460.out 2).trans rfl
                  have hcz78_3 : w51.cell? ⟨gb460, 3, none⟩ = some (.int .i64 a0_3) := (blk_cell BK460.out 3).trans rfl
                  have hcz78_4 : w51.cell? ⟨gb460, 4, none⟩ = some (.slice A0_4 l0_4.length c0_4) := (blk_cell BK460.out 4).trans rfl
                  have hfz78_0 := blk_frozen BK460.out 0
                  have hfz78_1 := blk_frozen BK460.out 1
                  have hfz78_2 := blk_frozen BK460.out 2
                  have hfz78_3 := blk_frozen BK460.out 3
                  have hfz78_4 := blk_frozen BK460.out 4
                  obtain ⟨Ao79, co79, eo79⟩ := Kd.R_slice HO475.out
                  subst eo79
                  go_wp2
                  repeat (go_quiet (fail); try go_wp2)
                  go_meet
                  case rel => exact ⟨_, (true), (by first | rfl | (simp; done) | (simp [*]; done)), H', ⟨by have := HJ3.out; first | omega | exact Nat.le_refl _⟩, ⟨by (with_reducible repeat (first | apply Kd.R_alloc | apply Kd.R_drewN | apply Kd.R_drew)); exact Kd.R_mono HO469.out (fun _ hk => hk.1.2)⟩, ⟨by (with_reducible repeat (first | apply Kd.R_alloc | apply Kd.R_drewN | apply Kd.R_drew)); exact Kd.R_mono HO472.out (fun _ hk => hk.1.2)⟩, ⟨by (with_reducible repeat (first | refine blk_drewN ?_ _ | refine blk_drew ?_ | refine blk_alloc ?_ _)); exact BK460.out⟩, ⟨by (with_reducible repeat (first | refine blk_drewN ?_ _ | refine blk_drew ?_ | refine blk_alloc ?_ _)); exact BK461.out⟩, ⟨by repeat (first | (with_reducible first | exact HB.out | apply below_alloc | apply pw_below_drewN | apply below_drew1 | refine below_set ?_ GE460.out | refine below_set ?_ GE461.out) | exact HB.out)⟩⟩
                · rw [if_neg c75] at H
                  have c75b0 : decide ((t473.length : Int) ≤ (t467.length : Int)) = false := decide_eq_false c75
                  have c75b1 : decide (t473.length ≤ t467.length) = false := decide_eq_false (fun h => c75 (Int.ofNat_le.mpr h))
                  clear c75
                  by_cases c80 : 1 ≤ (wrap64 (1 + (t467.length : Int)))
                  · rw [if_pos c80] at H
                    have c80b0 := eq_true c80
                    have c80b1 : decide (1 ≤ (wrap64 (1 + (t467.length : Int)))) = true := decide_eq_true c80
                    by_cases c81 : (wrap64 (1 + (t467.length : Int))) ≤ (t473.length : Int)
                    · rw [if_pos c81] at H
                      have c81b0 := eq_true c81
                      have c81b1 : decide ((wrap64 (1 + (t467.length : Int))) ≤ (t473.length : Int)) = true := decide_eq_true c81
                      obtain ⟨y481, hy481⟩ : ∃ y_ : List Int, y_ = ((t473.take ((wrap64 (1 + (t467.length : Int))) : Int).toNat).drop 1) := ⟨_, rfl⟩
                      replace H : ((phaetonref01_Same.f kj3 y481 t467).bind fun t485 => (phaetonlaw04_FrameRank.j1 kj3 t462 t467 t470 (!t485) true a0_1 a0_2 a0_3 l0_4 a1_0 a1_1 a1_2 a1_3 l1_4)) = some r := by first | (rw [hy481]; with_reducible exact H) | (have H2_ := (Option.bind_some _ _).symm.trans H; rw [hy481]; with_reducible exact H2_) | (have H2_ := (Option.bind_some _ _).symm.trans H; with_reducible exact H2_) | with_reducible exact H | (rw [hy481]; exact H) | exact H
                      have Ny481 := Aside0.mk hy481
                      clear hy481
                      replace H := Option.bind_eq_some_iff.mp H
                      obtain ⟨t485, A820, H⟩ := H
                      replace H : (phaetonlaw04_FrameRank.j1 kj3 t462 t467 t470 (!t485) true a0_1 a0_2 a0_3 l0_4 a1_0 a1_1 a1_2 a1_3 l1_4) = some r := H
                      have A82 := Aside0.mk A820
                      clear A820
                      have H' := Aside0.mk H
                      clear H
                      obtain ⟨Ao83, co83, eo83⟩ := Kd.R_slice HO469.out
                      subst eo83
                      have hnb84 := NB460_461.out
                      have hnc84 := NB461_460.out
                      have hcz85_0 : w51.cell? ⟨gb460, 0, none⟩ = some (.bool true) := (blk_cell BK460.out 0).trans rfl
                      have hcz85_1 : w51.cell? ⟨gb460, 1, none⟩ = some (.int .i64 a0_1) := (blk_cell BK460.out 1).trans rfl
                      have hcz85_2 : w51.cell? ⟨gb460, 2, none⟩ = some (.bool a0_2) := (blk_cell BK460.out 2).trans rfl
                      have hcz85_3 : w51.cell? ⟨gb460, 3, none⟩ = some (.int .i64 a0_3) := (blk_cell BK460.out 3).trans rfl
                      have hcz85_4 : w51.cell? ⟨gb460, 4, none⟩ = some (.slice A0_4 l0_4.length c0_4) := (blk_cell BK460.out 4).trans rfl
                      have hfz85_0 := blk_frozen BK460.out 0
                      have hfz85_1 := blk_frozen BK460.out 1
                      have hfz85_2 := blk_frozen BK460.out 2
                      have hfz85_3 := blk_frozen BK460.out 3
                      have hfz85_4 := blk_frozen BK460.out 4
                      obtain ⟨Ao86, co86, eo86⟩ := Kd.R_slice HO475.out
                      subst eo86
                      have q87 : ((wrap64 (1 + (t467.length : Int))) : Int) ≤ ((t473.length : Int) : Int) := of_decide_eq_true (by first | (with_reducible assumption) | assumption)
                      obtain ⟨i087, hi087, _, hsz87, _⟩ := info_parts info3
                      have hroom87 : t473.length ≤ co86 := (Kd.R_reads' HO475.out).2.1
                      have hC87 : Kd.C (Kd.int .i64) _ Ao86 t473.length t473 := (Kd.R_reads' HO475.out).2.2
                      have ql87 : (1 : Int) ≤ ((wrap64 (1 + (t467.length : Int))) : Int) := of_decide_eq_true (by first | (with_reducible assumption) | assumption)
                      have hcut87 := cut_mid (P := Try.prog) 25 3 .i64 .i64 Try.underlying25 hi087 1 hsz87 Ao86 t473.length co86 1 (wrap64 (1 + (t467.length : Int))) (by omega) ql87 q87 hroom87
                      have hr87 := Kd.C_mid (lo := (1 : Int).toNat) (hi := ((wrap64 (1 + (t467.length : Int))) : Int).toNat) (c := co86) hC87 (by omega) (by omega) hroom87
                      obtain ⟨A87, hA87⟩ : ∃ A1, A1 = (if co86 = (1 : Int).toNat then Ao86 else (Ao86 : Option Addr).map (·.add ((1 : Int).toNat * 1))) := ⟨_, rfl⟩
                      obtain ⟨c87, hc87⟩ : ∃ c1, c1 = co86 - (1 : Int).toNat := ⟨_, rfl⟩
                      have hy87 : y481.length = ((wrap64 (1 + (t467.length : Int))) : Int).toNat - (1 : Int).toNat := (by rw [Ny481.out]; exact framerank_cut _ _ 1 (of_decide_eq_true (by first | (with_reducible assumption) | assumption)))
                      rw [show ((t473).take ((wrap64 (1 + (t467.length : Int))) : Int).toNat).drop (1 : Int).toNat = y481 from Ny481.out.symm] at hr87
                      replace hr87 : Kd.C (Kd.int .i64) _ A87 y481.length y481 := (by rw [hA87]; exact hr87)
                      rw [← hy87, ← hA87, ← hc87] at hcut87
                      have HR484 := Aside0.mk hr87
                      have HC484 := Aside0.mk (show y481.length ≤ c87 from by rw [hy87, hc87]; exact Nat.sub_le_sub_right (Nat.le_trans (by omega) hroom87) _)
                      clear hr87 hC87 hroom87 hi087 hsz87 hc87
                      have KY87 := Aside0.mk hy87
                      have KA87 := Aside0.mk hA87
                      clear hy87 hA87
                      have KL87 := Aside0.mk (show ((wrap64 (1 + (t467.length : Int))) : Int).toNat ≤ t473.length from by omega)
                      have KM87 := Aside0.mk (show 1 ≤ ((wrap64 (1 + (t467.length : Int))) : Int).toNat from by omega)
                      replace q87 := eq_true q87
                      go_wp2_with (first | (go_at_call 16; (with_reducible refine (phaetonref01_Same.calls kj3 _ _ y481 _ _ t467 t485 _ ?side1 ?side2 ?side3 ?side4 A82.out).mono ?_); (case side1 => repeat (first | exact (by repeat (first | (with_reducible exact HR484.out) | (with_reducible refine Kd.C_alloc ?_ _) | (with_reducible refine Kd.C_drewN ?_ _) | (with_reducible refine Kd.C_drew ?_) | exact HR484.out)) | (with_reducible refine Kd.C_alloc ?_ _) | (with_reducible refine Kd.C_drewN ?_ _) | (with_reducible refine Kd.C_drew ?_))); (case side2 => exact HC484.out); (case side3 => repeat (first | exact (Kd.R_reads' HO469.out).2.2 | (with_reducible refine Kd.C_alloc ?_ _) | (with_reducible refine Kd.C_drewN ?_ _) | (with_reducible refine Kd.C_drew ?_))); (case side4 => exact (Kd.R_reads' HO469.out).2.1); rintro e w' ⟨rfl, ⟨nd, rfl⟩⟩; (try first | exact ⟨rfl, _, World.drewN_drewN _ _ _⟩ | exact ⟨rfl, _, Eq.trans (World.drewN_drewN _ _ _) (congrArg (World.drewN _) (Nat.add_assoc _ _ _))⟩)))
                      repeat (go_quiet (first | (go_at_call 16; (with_reducible refine (phaetonref01_Same.calls kj3 _ _ y481 _ _ t467 t485 _ ?side1 ?side2 ?side3 ?side4 A82.out).mono ?_); (case side1 => repeat (first | exact (by repeat (first | (with_reducible exact HR484.out) | (with_reducible refine Kd.C_alloc ?_ _) | (with_reducible refine Kd.C_drewN ?_ _) | (with_reducible refine Kd.C_drew ?_) | exact HR484.out)) | (with_reducible refine Kd.C_alloc ?_ _) | (with_reducible refine Kd.C_drewN ?_ _) | (with_reducible refine Kd.C_drew ?_))); (case side2 => exact HC484.out); (case side3 => repeat (first | exact (Kd.R_reads' HO469.out).2.2 | (with_reducible refine Kd.C_alloc ?_ _) | (with_reducible refine Kd.C_drewN ?_ _) | (with_reducible refine Kd.C_drew ?_))); (case side4 => exact (Kd.R_reads' HO469.out).2.1); rintro e w' ⟨rfl, ⟨nd, rfl⟩⟩; (try first | exact ⟨rfl, _, World.drewN_drewN _ _ _⟩ | exact ⟨rfl, _, Eq.trans (World.drewN_drewN _ _ _) (congrArg (World.drewN _) (Nat.add_assoc _ _ _))⟩))); try go_wp2_with (first | (go_at_call 16; (with_reducible refine (phaetonref01_Same.calls kj3 _ _ y481 _ _ t467 t485 _ ?side1 ?side2 ?side3 ?side4 A82.out).mono ?_); (case side1 => repeat (first | exact (by repeat (first | (with_reducible exact HR484.out) | (with_reducible refine Kd.C_alloc ?_ _) | (with_reducible refine Kd.C_drewN ?_ _) | (with_reducible refine Kd.C_drew ?_) | exact HR484.out)) | (with_reducible refine Kd.C_alloc ?_ _) | (with_reducible refine Kd.C_drewN ?_ _) | (with_reducible refine Kd.C_drew ?_))); (case side2 => exact HC484.out); (case side3 => repeat (first | exact (Kd.R_reads' HO469.out).2.2 | (with_reducible refine Kd.C_alloc ?_ _) | (with_reducible refine Kd.C_drewN ?_ _) | (with_reducible refine Kd.C_drew ?_))); (case side4 => exact (Kd.R_reads' HO469.out).2.1); rintro e w' ⟨rfl, ⟨nd, rfl⟩⟩; (try first | exact ⟨rfl, _, World.drewN_drewN _ _ _⟩ | exact ⟨rfl, _, Eq.trans (World.drewN_drewN _ _ _) (congrArg (World.drewN _) (Nat.add_assoc _ _ _))⟩))))
                      go_meet
                      case rel => exact ⟨_, (!t485), (by first | rfl | (simp; done) | (simp [*]; done)), H', ⟨by have := HJ3.out; first | omega | exact Nat.le_refl _⟩, ⟨by (with_reducible repeat (first | apply Kd.R_alloc | apply Kd.R_drewN | apply Kd.R_drew)); exact Kd.R_mono HO469.out (fun _ hk => hk.1.2)⟩, ⟨by (with_reducible repeat (first | apply Kd.R_alloc | apply Kd.R_drewN | apply Kd.R_drew)); exact Kd.R_mono HO472.out (fun _ hk => hk.1.2)⟩, ⟨by (with_reducible repeat (first | refine blk_drewN ?_ _ | refine blk_drew ?_ | refine blk_alloc ?_ _)); exact BK460.out⟩, ⟨by (with_reducible repeat (first | refine blk_drewN ?_ _ | refine blk_drew ?_ | refine blk_alloc ?_ _)); exact BK461.out⟩, ⟨by repeat (first | (with_reducible first | exact HB.out | apply below_alloc | apply pw_below_drewN | apply below_drew1 | refine below_set ?_ GE460.out | refine below_set ?_ GE461.out) | exact HB.out)⟩⟩
                    · rw [if_neg c81] at H
                      exact absurd H (by simp)
                  · rw [if_neg c80] at H
                    exact absurd H (by simp)
            · rw [if_neg c70] at H
              have c70b0 : ((t467.length : Int) == 32) = false := beq_eq_false_iff_ne.mpr c70
              have c70b1 : ((t467.length : Int) != 32) = true := bne_iff_ne.mpr c70
              have H' := Aside0.mk H
              clear H
              obtain ⟨Ao88, co88, eo88⟩ := Kd.R_slice HO469.out
              subst eo88
              go_wp2
              repeat (go_quiet (fail); try go_wp2)
              go_meet
              case rel => exact ⟨_, (true), (by first | rfl | (simp; done) | (simp [*]; done)), H', ⟨by have := HJ3.out; first | omega | exact Nat.le_refl _⟩, ⟨by (with_reducible repeat (first | apply Kd.R_alloc | apply Kd.R_drewN | apply Kd.R_drew)); exact Kd.R_mono HO469.out (fun _ hk => hk.1.2)⟩, ⟨by (with_reducible repeat (first | apply Kd.R_alloc | apply Kd.R_drewN | apply Kd.R_drew)); exact Kd.R_mono HO472.out (fun _ hk => hk.1.2)⟩, ⟨by (with_reducible repeat (first | refine blk_drewN ?_ _ | refine blk_drew ?_ | refine blk_alloc ?_ _)); exact BK460.out⟩, ⟨by (with_reducible repeat (first | refine blk_drewN ?_ _ | refine blk_drew ?_ | refine blk_alloc ?_ _)); exact BK461.out⟩, ⟨by repeat (first | (with_reducible first | exact HB.out | apply below_alloc | apply pw_below_drewN | apply below_drew1 | refine below_set ?_ GE460.out | refine below_set ?_ GE461.out) | exact HB.out)⟩⟩
        case rest =>
          clear HC44
          try clear c1
          try clear c2
          try clear p2
          try clear c3
          try clear c4
          try clear c5
          try clear c6
          try clear p6
          try clear q6
          try clear c7
          try clear c8
          try clear q8
          try clear c9
          try clear c10
          try clear c14
          try clear c15
          try clear c21
          try clear c23
          try clear c32
          try clear c39
          try clear c40
          try clear c45
          try clear c52
          try clear c52b0
          try clear c52b1
          try clear c53
          try clear c53b0
          try clear c53b1
          try clear c53b2
          try clear c55
          try clear c57
          try clear c57b0
          try clear c57b1
          try clear c59
          try clear c62
          try clear c62b0
          try clear c62b1
          try clear c63
          try clear c63b0
          try clear c63b1
          try clear p64
          try clear c66
          try clear c69
          try clear q69
          try clear c70
          try clear c70b0
          try clear c70b1
          try clear c71
          try clear c71b0
          try clear c71b1
          try clear c71b2
          try clear c73
          try clear c75
          try clear c75b0
          try clear c75b1
          try clear c77
          try clear c80
          try clear c80b0
          try clear c80b1
          try clear c81
          try clear c81b0
          try clear c81b1
          try clear c84
          try clear c87
          try clear q87
          try clear hcz11_0
          try clear hcz11_1
          try clear hcz11_2
          try clear hcz11_3
          try clear hcz11_4
          try clear hcz16_0
          try clear hcz16_1
          try clear hcz16_2
          try clear hcz16_3
          try clear hcz16_4
          try clear hcz18_0
          try clear hcz18_1
          try clear hcz18_2
          try clear hcz18_3
          try clear hcz18_4
          try clear hcz24_0
          try clear hcz24_1
          try clear hcz24_2
          try clear hcz24_3
          try clear hcz24_4
          try clear hcz26_0
          try clear hcz26_1
          try clear hcz26_2
          try clear hcz26_3
          try clear hcz26_4
          try clear hcz28_0
          try clear hcz28_1
          try clear hcz28_2
          try clear hcz28_3
          try clear hcz28_4
          try clear hcz30_0
          try clear hcz30_1
          try clear hcz30_2
          try clear hcz30_3
          try clear hcz30_4
          try clear hcz33_0
          try clear hcz33_1
          try clear hcz33_2
          try clear hcz33_3
          try clear hcz33_4
          try clear hcz35_0
          try clear hcz35_1
          try clear hcz35_2
          try clear hcz35_3
          try clear hcz35_4
          try clear hcz37_0
          try clear hcz37_1
          try clear hcz37_2
          try clear hcz37_3
          try clear hcz37_4
          try clear hcz46_0
          try clear hcz46_1
          try clear hcz46_2
          try clear hcz46_3
          try clear hcz46_4
          try clear hcz48_0
          try clear hcz48_1
          try clear hcz48_2
          try clear hcz48_3
          try clear hcz48_4
          try clear hcz50_0
          try clear hcz50_1
          try clear hcz50_2
          try clear hcz50_3
          try clear hcz50_4
          try clear hcz56_0
          try clear hcz56_1
          try clear hcz56_2
          try clear hcz56_3
          try clear hcz56_4
          try clear hcz60_0
          try clear hcz60_1
          try clear hcz60_2
          try clear hcz60_3
          try clear hcz60_4
          try clear hcz67_0
          try clear hcz67_1
          try clear hcz67_2
          try clear hcz67_3
          try clear hcz67_4
          try clear hcz74_0
          try clear hcz74_1
          try clear hcz74_2
          try clear hcz74_3
          try clear hcz74_4
          try clear hcz78_0
          try clear hcz78_1
          try clear hcz78_2
          try clear hcz78_3
          try clear hcz78_4
          try clear hcz85_0
          try clear hcz85_1
          try clear hcz85_2
          try clear hcz85_3
          try clear hcz85_4
          try clear hfz11_0
          try clear hfz11_1
          try clear hfz11_2
          try clear hfz11_3
          try clear hfz11_4
          try clear hfz16_0
          try clear hfz16_1
          try clear hfz16_2
          try clear hfz16_3
          try clear hfz16_4
          try clear hfz18_0
          try clear hfz18_1
          try clear hfz18_2
          try clear hfz18_3
          try clear hfz18_4
          try clear hfz24_0
          try clear hfz24_1
          try clear hfz24_2
          try clear hfz24_3
          try clear hfz24_4
          try clear hfz26_0
          try clear hfz26_1
          try clear hfz26_2
          try clear hfz26_3
          try clear hfz26_4
          try clear hfz28_0
          try clear hfz28_1
          try clear hfz28_2
          try clear hfz28_3
          try clear hfz28_4
          try clear hfz30_0
          try clear hfz30_1
          try clear hfz30_2
          try clear hfz30_3
          try clear hfz30_4
          try clear hfz33_0
          try clear hfz33_1
          try clear hfz33_2
          try clear hfz33_3
          try clear hfz33_4
          try clear hfz35_0
          try clear hfz35_1
          try clear hfz35_2
          try clear hfz35_3
          try clear hfz35_4
          try clear hfz37_0
          try clear hfz37_1
          try clear hfz37_2
          try clear hfz37_3
          try clear hfz37_4
          try clear hfz46_0
          try clear hfz46_1
          try clear hfz46_2
          try clear hfz46_3
          try clear hfz46_4
          try clear hfz48_0
          try clear hfz48_1
          try clear hfz48_2
          try clear hfz48_3
          try clear hfz48_4
          try clear hfz50_0
          try clear hfz50_1
          try clear hfz50_2
          try clear hfz50_3
          try clear hfz50_4
          try clear hfz56_0
          try clear hfz56_1
          try clear hfz56_2
          try clear hfz56_3
          try clear hfz56_4
          try clear hfz60_0
          try clear hfz60_1
          try clear hfz60_2
          try clear hfz60_3
          try clear hfz60_4
          try clear hfz67_0
          try clear hfz67_1
          try clear hfz67_2
          try clear hfz67_3
          try clear hfz67_4
          try clear hfz74_0
          try clear hfz74_1
          try clear hfz74_2
          try clear hfz74_3
          try clear hfz74_4
          try clear hfz78_0
          try clear hfz78_1
          try clear hfz78_2
          try clear hfz78_3
          try clear hfz78_4
          try clear hfz85_0
          try clear hfz85_1
          try clear hfz85_2
          try clear hfz85_3
          try clear hfz85_4
          try clear p2
          try clear q69
          try clear q87
          obtain ⟨kq, x67_43, rfl, HA, HJ43, HO_6, HO_7, BK460, BK461, HB⟩ := hcut
          cases kq with
          | zero => exact absurd HA.out (by simp [phaetonlaw04_FrameRank.j1])
          | succ kj43 =>
            have H := HA.out
            clear HA
            simp only [phaetonlaw04_FrameRank.j1] at H
            by_cases c89 : x67_43 = true
            · subst c89
              have H1 : (none) = some r := by rw [if_pos rfl] at H; exact H
              clear H
              have H := H1
              clear H1
              exact absurd H (by simp)
            · replace c89 := Bool.eq_false_iff.mpr c89
              subst c89
              have H1 : (if (a0_0 == a1_0) = true then (if a0_1 = a1_1 then (if t462 = true then ((phaetonref01_Same.f kj43 t467 t470).bind fun t486 => (if (t486 == (a0_2 == a1_2)) = true then (if 0 ≤ (mn (t467.length : Int) (t470.length : Int)) then (if (mn (t467.length : Int) (t470.length : Int)) ≤ (t467.length : Int) then (if (mn (t467.length : Int) (t470.length : Int)) ≤ (t470.length : Int) then ((phaetonref01_Same.f kj43 (t467.take ((mn (t467.length : Int) (t470.length : Int)) : Int).toNat) (t470.take ((mn (t467.length : Int) (t470.length : Int)) : Int).toNat)).bind fun t495 => (if (t495 == (a0_2 == a1_2)) = true then (some true) else (none))) else (none)) else (none)) else (none)) else (none))) else (none)) else (if t462 = true then ((phaetonref01_Same.f kj43 t467 t470).bind fun t496 => (if (t496 == false) = true then (if 0 ≤ (mn (t467.length : Int) (t470.length : Int)) then (if (mn (t467.length : Int) (t470.length : Int)) ≤ (t467.length : Int) then (if (mn (t467.length : Int) (t470.length : Int)) ≤ (t470.length : Int) then ((phaetonref01_Same.f kj43 (t467.take ((mn (t467.length : Int) (t470.length : Int)) : Int).toNat) (t470.take ((mn (t467.length : Int) (t470.length : Int)) : Int).toNat)).bind fun t505 => (if (t505 == false) = true then (some true) else (none))) else (none)) else (none)) else (none)) else (none))) else (none))) else (if t462 = true then ((phaetonref01_Same.f kj43 t467 t470).bind fun t506 => (if (t506 == false) = true then (if 0 ≤ (mn (t467.length : Int) (t470.length : Int)) then (if (mn (t467.length : Int) (t470.length : Int)) ≤ (t467.length : Int) then (if (mn (t467.length : Int) (t470.length : Int)) ≤ (t470.length : Int) then ((phaetonref01_Same.f kj43 (t467.take ((mn (t467.length : Int) (t470.length : Int)) : Int).toNat) (t470.take ((mn (t467.length : Int) (t470.length : Int)) : Int).toNat)).bind fun t515 => (if (t515 == false) = true then (some true) else (none))) else (none)) else (none)) else (none)) else (none))) else (none))) = some r := by rw [if_neg (show ¬ (false = true) by decide)] at H; exact H
              clear H
              have H := H1
              clear H1
              by_cases c90 : (a0_0 == a1_0) = true
              · rw [if_pos c90] at H
                have c90b0 : (a0_0 == a1_0) = true := c90
                (try (have c90b1 : decide (a0_0 = a1_0) = true := by simpa using c90))
                (try (have c90b2 : (a0_0 == a1_0) = true := by simpa using c90))
                clear c90
                by_cases c91 : a0_1 = a1_1
                · rw [if_pos c91] at H
                  have c91b0 : (a0_1 == a1_1) = true := beq_iff_eq.mpr c91
                  have c91b1 : (a0_1 != a1_1) = false := bne_eq_false_iff_eq.mpr c91
                  clear c91
                  obtain ⟨ji92, hji92⟩ : ∃ j_ : Int, (mn (t467.length : Int) (t470.length : Int)) = j_ := ⟨_, rfl⟩
                  replace H : (if t462 = true then ((phaetonref01_Same.f kj43 t467 t470).bind fun t486 => (if (t486 == (a0_2 == a1_2)) = true then (if 0 ≤ (ji92) then (if (ji92) ≤ (t467.length : Int) then (if (ji92) ≤ (t470.length : Int) then ((phaetonref01_Same.f kj43 (t467.take ((ji92) : Int).toNat) (t470.take ((ji92) : Int).toNat)).bind fun t495 => (if (t495 == (a0_2 == a1_2)) = true then (some true) else (none))) else (none)) else (none)) else (none)) else (none))) else (none)) = some r := by first | (rw [hji92] at H; exact H) | (simp only [hji92] at H ⊢; exact H)
                  have hji92_ : (if (t470.length : Int) < (t467.length : Int) then (t470.length : Int) else (t467.length : Int)) = ji92 := hji92
                  have hji92n : (if t470.length < t467.length then (t470.length : Int) else (t467.length : Int)) = ji92 := by rw [← hji92_]; simp only [Int.ofNat_lt]
                  by_cases c93 : t462 = true
                  · subst c93
                    have H1 : ((phaetonref01_Same.f kj43 t467 t470).bind fun t486 => (if (t486 == (a0_2 == a1_2)) = true then (if 0 ≤ (ji92) then (if (ji92) ≤ (t467.length : Int) then (if (ji92) ≤ (t470.length : Int) then ((phaetonref01_Same.f kj43 (t467.take ((ji92) : Int).toNat) (t470.take ((ji92) : Int).toNat)).bind fun t495 => (if (t495 == (a0_2 == a1_2)) = true then (some true) else (none))) else (none)) else (none)) else (none)) else (none))) = some r := by rw [if_pos rfl] at H; exact H
                    clear H
                    have H := H1
                    clear H1
                    replace H := Option.bind_eq_some_iff.mp H
                    obtain ⟨t486, A940, H⟩ := H
                    replace H : (if (t486 == (a0_2 == a1_2)) = true then (if 0 ≤ (ji92) then (if (ji92) ≤ (t467.length : Int) then (if (ji92) ≤ (t470.length : Int) then ((phaetonref01_Same.f kj43 (t467.take ((ji92) : Int).toNat) (t470.take ((ji92) : Int).toNat)).bind fun t495 => (if (t495 == (a0_2 == a1_2)) = true then (some true) else (none))) else (none)) else (none)) else (none)) else (none)) = some r := H
                    have A94 := Aside0.mk A940
                    clear A940
                    by_cases c95 : (t486 == (a0_2 == a1_2)) = true
                    · rw [if_pos c95] at H
                      have c95b0 : (t486 == (a0_2 == a1_2)) = true := c95
                      (try (have c95b1 : decide (t486 = (a0_2 == a1_2)) = true := by simpa using c95))
                      (try (have c95b2 : (t486 == (a0_2 == a1_2)) = true := by simpa using c95))
                      clear c95
                      by_cases c96 : 0 ≤ (ji92)
                      · rw [if_pos c96] at H
                        have c96b0 := eq_true c96
                        have c96b1 : decide (0 ≤ (ji92)) = true := decide_eq_true c96
                        have c96m : max (ji92) 0 = (ji92) := by omega
                        clear c96
                        by_cases c97 : (ji92) ≤ (t467.length : Int)
                        · rw [if_pos c97] at H
                          have c97b0 := eq_true c97
                          have c97b1 : decide ((ji92) ≤ (t467.length : Int)) = true := decide_eq_true c97
                          clear c97
                          obtain ⟨y487, hy487⟩ : ∃ y_ : List Int, y_ = (t467.take ((ji92) : Int).toNat) := ⟨_, rfl⟩
                          replace H : (if (ji92) ≤ (t470.length : Int) then ((phaetonref01_Same.f kj43 y487 (t470.take ((ji92) : Int).toNat)).bind fun t495 => (if (t495 == (a0_2 == a1_2)) = true then (some true) else (none))) else (none)) = some r := by first | (rw [hy487]; with_reducible exact H) | (have H2_ := (Option.bind_some _ _).symm.trans H; rw [hy487]; with_reducible exact H2_) | (have H2_ := (Option.bind_some _ _).symm.trans H; with_reducible exact H2_) | with_reducible exact H | (rw [hy487]; exact H) | exact H
                          have Ny487 := Aside0.mk hy487
                          clear hy487
                          have c98b0 := eq_true (of_decide_eq_true (by first | (with_reducible assumption) | assumption) : 0 ≤ (ji92))
                          by_cases c99 : (ji92) ≤ (t470.length : Int)
                          · rw [if_pos c99] at H
                            have c99b0 := eq_true c99
                            have c99b1 : decide ((ji92) ≤ (t470.length : Int)) = true := decide_eq_true c99
                            clear c99
                            obtain ⟨y491, hy491⟩ : ∃ y_ : List Int, y_ = (t470.take ((ji92) : Int).toNat) := ⟨_, rfl⟩
                            replace H : ((phaetonref01_Same.f kj43 y487 y491).bind fun t495 => (if (t495 == (a0_2 == a1_2)) = true then (some true) else (none))) = some r := by first | (rw [hy491]; with_reducible exact H) | (have H2_ := (Option.bind_some _ _).symm.trans H; rw [hy491]; with_reducible exact H2_) | (have H2_ := (Option.bind_some _ _).symm.trans H; with_reducible exact H2_) | with_reducible exact H | (rw [hy491]; exact H) | exact H
                            have Ny491 := Aside0.mk hy491
                            clear hy491
                            replace H := Option.bind_eq_some_iff.mp H
                            obtain ⟨t495, A1000, H⟩ := H
                            replace H : (if (t495 == (a0_2 == a1_2)) = true then (some true) else (none)) = some r := H
                            have A100 := Aside0.mk A1000
                            clear A1000
                            by_cases c101 : (t495 == (a0_2 == a1_2)) = true
                            · rw [if_pos c101] at H
                              have c101b0 : (t495 == (a0_2 == a1_2)) = true := c101
                              (try (have c101b1 : decide (t495 = (a0_2 == a1_2)) = true := by simpa using c101))
                              (try (have c101b2 : (t495 == (a0_2 == a1_2)) = true := by simpa using c101))
                              clear c101
                              obtain rfl := Option.some.inj H
                              have hnb102 := NB460_461.out
                              have hnc102 := NB461_460.out
                              have hcz103_0 : wc.cell? ⟨gb460, 0, none⟩ = some (.bool a0_0) := (blk_cell BK460.out 0).trans rfl
                              have hcz103_1 : wc.cell? ⟨gb460, 1, none⟩ = some (.int .i64 a0_1) := (blk_cell BK460.out 1).trans rfl
                              have hcz103_2 : wc.cell? ⟨gb460, 2, none⟩ = some (.bool a0_2) := (blk_cell BK460.out 2).trans rfl
                              have hcz103_3 : wc.cell? ⟨gb460, 3, none⟩ = some (.int .i64 a0_3) := (blk_cell BK460.out 3).trans rfl
                              have hcz103_4 : wc.cell? ⟨gb460, 4, none⟩ = some (.slice A0_4 l0_4.length c0_4) := (blk_cell BK460.out 4).trans rfl
                              have hfz103_0 := blk_frozen BK460.out 0
                              have hfz103_1 := blk_frozen BK460.out 1
                              have hfz103_2 := blk_frozen BK460.out 2
                              have hfz103_3 := blk_frozen BK460.out 3
                              have hfz103_4 := blk_frozen BK460.out 4
                              have hcz104_0 : wc.cell? ⟨gb461, 0, none⟩ = some (.bool a1_0) := (blk_cell BK461.out 0).trans rfl
                              have hcz104_1 : wc.cell? ⟨gb461, 1, none⟩ = some (.int .i64 a1_1) := (blk_cell BK461.out 1).trans rfl
                              have hcz104_2 : wc.cell? ⟨gb461, 2, none⟩ = some (.bool a1_2) := (blk_cell BK461.out 2).trans rfl
                              have hcz104_3 : wc.cell? ⟨gb461, 3, none⟩ = some (.int .i64 a1_3) := (blk_cell BK461.out 3).trans rfl
                              have hcz104_4 : wc.cell? ⟨gb461, 4, none⟩ = some (.slice A1_4 l1_4.length c1_4) := (blk_cell BK461.out 4).trans rfl
                              have hfz104_0 := blk_frozen BK461.out 0
                              have hfz104_1 := blk_frozen BK461.out 1
                              have hfz104_2 := blk_frozen BK461.out 2
                              have hfz104_3 := blk_frozen BK461.out 3
                              have hfz104_4 := blk_frozen BK461.out 4
                              obtain ⟨Ao105, co105, eo105⟩ := Kd.R_slice HO_6.out
                              subst eo105
                              obtain ⟨Ao106, co106, eo106⟩ := Kd.R_slice HO_7.out
                              subst eo106
                              go_wp2_with (first | (go_at_call 16; (with_reducible refine (phaetonref01_Same.calls kj43 _ _ t467 _ _ t470 t486 _ ?side1 ?side2 ?side3 ?side4 A94.out).mono ?_); (case side1 => repeat (first | exact (Kd.R_reads' HO_6.out).2.2 | (with_reducible refine Kd.C_alloc ?_ _) | (with_reducible refine Kd.C_drewN ?_ _) | (with_reducible refine Kd.C_drew ?_))); (case side2 => exact (Kd.R_reads' HO_6.out).2.1); (case side3 => repeat (first | exact (Kd.R_reads' HO_7.out).2.2 | (with_reducible refine Kd.C_alloc ?_ _) | (with_reducible refine Kd.C_drewN ?_ _) | (with_reducible refine Kd.C_drew ?_))); (case side4 => exact (Kd.R_reads' HO_7.out).2.1); rintro e w' ⟨rfl, ⟨nd, rfl⟩⟩; (try first | exact ⟨rfl, _, World.drewN_drewN _ _ _⟩ | exact ⟨rfl, _, Eq.trans (World.drewN_drewN _ _ _) (congrArg (World.drewN _) (Nat.add_assoc _ _ _))⟩); have q107 : ((ji92) : Int) ≤ ((t467.length : Int) : Int) := of_decide_eq_true (by first | (with_reducible assumption) | assumption); obtain ⟨i0107, hi0107, _, hsz107, _⟩ := info_parts info3; have hroom107 : t467.length ≤ co105 := (Kd.R_reads' HO_6.out).2.1; have hC107 : Kd.C (Kd.int .i64) _ Ao105 t467.length t467 := (Kd.R_reads' HO_6.out).2.2; have hcut107 := cut_to (P := Try.prog) 25 3 .i64 Try.underlying25 hi0107 Ao105 t467.length co105 (ji92) (of_decide_eq_true (by first | (with_reducible assumption) | assumption)) q107 hroom107; have hr107 := Kd.C_take (m := ((ji92) : Int).toNat) hC107 (by omega); have hy107 : y487.length = ((ji92) : Int).toNat := (by rw [Ny487.out, List.length_take]; omega); rw [← Ny487.out] at hr107; rw [← hy107] at hcut107; have HR490 := Aside0.mk hr107; have HC490 := Aside0.mk (show y487.length ≤ co105 from by omega); clear hr107 hC107 hroom107 hi0107 hsz107; have KY107 := Aside0.mk hy107; clear hy107; have KL107 := Aside0.mk (show ((ji92) : Int).toNat ≤ t467.length from by omega); replace q107 := eq_true q107; have q108 : ((ji92) : Int) ≤ ((t470.length : Int) : Int) := of_decide_eq_true (by first | (with_reducible assumption) | assumption); obtain ⟨i0108, hi0108, _, hsz108, _⟩ := info_parts info3; have hroom108 : t470.length ≤ co106 := (Kd.R_reads' HO_7.out).2.1; have hC108 : Kd.C (Kd.int .i64) _ Ao106 t470.length t470 := (Kd.R_reads' HO_7.out).2.2; have hcut108 := cut_to (P := Try.prog) 25 3 .i64 Try.underlying25 hi0108 Ao106 t470.length co106 (ji92) (of_decide_eq_true (by first | (with_reducible assumption) | assumption)) q108 hroom108; have hr108 := Kd.C_take (m := ((ji92) : Int).toNat) hC108 (by omega); have hy108 : y491.length = ((ji92) : Int).toNat := (by rw [Ny491.out, List.length_take]; omega); rw [← Ny491.out] at hr108; rw [← hy108] at hcut108; have HR494 := Aside0.mk hr108; have HC494 := Aside0.mk (show y491.length ≤ co106 from by omega); clear hr108 hC108 hroom108 hi0108 hsz108; have KY108 := Aside0.mk hy108; clear hy108; have KL108 := Aside0.mk (show ((ji92) : Int).toNat ≤ t470.length from by omega); replace q108 := eq_true q108) | (go_at_call 16; (with_reducible refine (phaetonref01_Same.calls kj43 _ _ y487 _ _ y491 t495 _ ?side1 ?side2 ?side3 ?side4 A100.out).mono ?_); (case side1 => repeat (first | exact (by repeat (first | (with_reducible exact HR490.out) | (with_reducible refine Kd.C_alloc ?_ _) | (with_reducible refine Kd.C_drewN ?_ _) | (with_reducible refine Kd.C_drew ?_) | exact HR490.out)) | (with_reducible refine Kd.C_alloc ?_ _) | (with_reducible refine Kd.C_drewN ?_ _) | (with_reducible refine Kd.C_drew ?_))); (case side2 => exact HC490.out); (case side3 => repeat (first | exact (by repeat (first | (with_reducible exact HR494.out) | (with_reducible refine Kd.C_alloc ?_ _) | (with_reducible refine Kd.C_drewN ?_ _) | (with_reducible refine Kd.C_drew ?_) | exact HR494.out)) | (with_reducible refine Kd.C_alloc ?_ _) | (with_reducible refine Kd.C_drewN ?_ _) | (with_reducible refine Kd.C_drew ?_))); (case side4 => exact HC494.out); rintro e w' ⟨rfl, ⟨nd, rfl⟩⟩; (try first | exact ⟨rfl, _, World.drewN_drewN _ _ _⟩ | exact ⟨rfl, _, Eq.trans (World.drewN_drewN _ _ _) (congrArg (World.drewN _) (Nat.add_assoc _ _ _))⟩)))
                              repeat (go_quiet (first | (go_at_call 16; (with_reducible refine (phaetonref01_Same.calls kj43 _ _ t467 _ _ t470 t486 _ ?side1 ?side2 ?side3 ?side4 A94.out).mono ?_); (case side1 => repeat (first | exact (Kd.R_reads' HO_6.out).2.2 | (with_reducible refine Kd.C_alloc ?_ _) | (with_reducible refine Kd.C_drewN ?_ _) | (with_reducible refine Kd.C_drew ?_))); (case side2 => exact (Kd.R_reads' HO_6.out).2.1); (case side3 => repeat (first | exact (Kd.R_reads' HO_7.out).2.2 | (with_reducible refine Kd.C_alloc ?_ _) | (with_reducible refine Kd.C_drewN ?_ _) | (with_reducible refine Kd.C_drew ?_))); (case side4 => exact (Kd.R_reads' HO_7.out).2.1); rintro e w' ⟨rfl, ⟨nd, rfl⟩⟩; (try first | exact ⟨rfl, _, World.drewN_drewN _ _ _⟩ | exact ⟨rfl, _, Eq.trans (World.drewN_drewN _ _ _) (congrArg (World.drewN _) (Nat.add_assoc _ _ _))⟩); have q107 : ((ji92) : Int) ≤ ((t467.length : Int) : Int) := of_decide_eq_true (by first | (with_reducible assumption) | assumption); obtain ⟨i0107, hi0107, _, hsz107, _⟩ := info_parts info3; have hroom107 : t467.length ≤ co105 := (Kd.R_reads' HO_6.out).2.1; have hC107 : Kd.C (Kd.int .i64) _ Ao105 t467.length t467 := (Kd.R_reads' HO_6.out).2.2; have hcut107 := cut_to (P := Try.prog) 25 3 .i64 Try.underlying25 hi0107 Ao105 t467.length co105 (ji92) (of_decide_eq_true (by first | (with_reducible assumption) | assumption)) q107 hroom107; have hr107 := Kd.C_take (m := ((ji92) : Int).toNat) hC107 (by omega); have hy107 : y487.length = ((ji92) : Int).toNat := (by rw [Ny487.out, List.length_take]; omega); rw [← Ny487.out] at hr107; rw [← hy107] at hcut107; have HR490 := Aside0.mk hr107; have HC490 := Aside0.mk (show y487.length ≤ co105 from by omega); clear hr107 hC107 hroom107 hi0107 hsz107; have KY107 := Aside0.mk hy107; clear hy107; have KL107 := Aside0.mk (show ((ji92) : Int).toNat ≤ t467.length from by omega); replace q107 := eq_true q107; have q108 : ((ji92) : Int) ≤ ((t470.length : Int) : Int) := of_decide_eq_true (by first | (with_reducible assumption) | assumption); obtain ⟨i0108, hi0108, _, hsz108, _⟩ := info_parts info3; have hroom108 : t470.length ≤ co106 := (Kd.R_reads' HO_7.out).2.1; have hC108 : Kd.C (Kd.int .i64) _ Ao106 t470.length t470 := (Kd.R_reads' HO_7.out).2.2; have hcut108 := cut_to (P := Try.prog) 25 3 .i64 Try.underlying25 hi0108 Ao106 t470.length co106 (ji92) (of_decide_eq_true (by first | (with_reducible assumption) | assumption)) q108 hroom108; have hr108 := Kd.C_take (m := ((ji92) : Int).toNat) hC108 (by omega); have hy108 : y491.length = ((ji92) : Int).toNat := (by rw [Ny491.out, List.length_take]; omega); rw [← Ny491.out] at hr108; rw [← hy108] at hcut108; have HR494 := Aside0.mk hr108; have HC494 := Aside0.mk (show y491.length ≤ co106 from by omega); clear hr108 hC108 hroom108 hi0108 hsz108; have KY108 := Aside0.mk hy108; clear hy108; have KL108 := Aside0.mk (show ((ji92) : Int).toNat ≤ t470.length from by omega); replace q108 := eq_true q108) | (go_at_call 16; (with_reducible refine (phaetonref01_Same.calls kj43 _ _ y487 _ _ y491 t495 _ ?side1 ?side2 ?side3 ?side4 A100.out).mono ?_); (case side1 => repeat (first | exact (by repeat (first | (with_reducible exact HR490.out) | (with_reducible refine Kd.C_alloc ?_ _) | (with_reducible refine Kd.C_drewN ?_ _) | (with_reducible refine Kd.C_drew ?_) | exact HR490.out)) | (with_reducible refine Kd.C_alloc ?_ _) | (with_reducible refine Kd.C_drewN ?_ _) | (with_reducible refine Kd.C_drew ?_))); (case side2 => exact HC490.out); (case side3 => repeat (first | exact (by repeat (first | (with_reducible exact HR494.out) | (with_reducible refine Kd.C_alloc ?_ _) | (with_reducible refine Kd.C_drewN ?_ _) | (with_reducible refine Kd.C_drew ?_) | exact HR494.out)) | (with_reducible refine Kd.C_alloc ?_ _) | (with_reducible refine Kd.C_drewN ?_ _) | (with_reducible refine Kd.C_drew ?_))); (case side4 => exact HC494.out); rintro e w' ⟨rfl, ⟨nd, rfl⟩⟩; (try first | exact ⟨rfl, _, World.drewN_drewN _ _ _⟩ | exact ⟨rfl, _, Eq.trans (World.drewN_drewN _ _ _) (congrArg (World.drewN _) (Nat.add_assoc _ _ _))⟩))); try go_wp2_with (first | (go_at_call 16; (with_reducible refine (phaetonref01_Same.calls kj43 _ _ t467 _ _ t470 t486 _ ?side1 ?side2 ?side3 ?side4 A94.out).mono ?_); (case side1 => repeat (first | exact (Kd.R_reads' HO_6.out).2.2 | (with_reducible refine Kd.C_alloc ?_ _) | (with_reducible refine Kd.C_drewN ?_ _) | (with_reducible refine Kd.C_drew ?_))); (case side2 => exact (Kd.R_reads' HO_6.out).2.1); (case side3 => repeat (first | exact (Kd.R_reads' HO_7.out).2.2 | (with_reducible refine Kd.C_alloc ?_ _) | (with_reducible refine Kd.C_drewN ?_ _) | (with_reducible refine Kd.C_drew ?_))); (case side4 => exact (Kd.R_reads' HO_7.out).2.1); rintro e w' ⟨rfl, ⟨nd, rfl⟩⟩; (try first | exact ⟨rfl, _, World.drewN_drewN _ _ _⟩ | exact ⟨rfl, _, Eq.trans (World.drewN_drewN _ _ _) (congrArg (World.drewN _) (Nat.add_assoc _ _ _))⟩); have q107 : ((ji92) : Int) ≤ ((t467.length : Int) : Int) := of_decide_eq_true (by first | (with_reducible assumption) | assumption); obtain ⟨i0107, hi0107, _, hsz107, _⟩ := info_parts info3; have hroom107 : t467.length ≤ co105 := (Kd.R_reads' HO_6.out).2.1; have hC107 : Kd.C (Kd.int .i64) _ Ao105 t467.length t467 := (Kd.R_reads' HO_6.out).2.2; have hcut107 := cut_to (P := Try.prog) 25 3 .i64 Try.underlying25 hi0107 Ao105 t467.length co105 (ji92) (of_decide_eq_true (by first | (with_reducible assumption) | assumption)) q107 hroom107; have hr107 := Kd.C_take (m := ((ji92) : Int).toNat) hC107 (by omega); have hy107 : y487.length = ((ji92) : Int).toNat := (by rw [Ny487.out, List.length_take]; omega); rw [← Ny487.out] at hr107; rw [← hy107] at hcut107; have HR490 := Aside0.mk hr107; have HC490 := Aside0.mk (show y487.length ≤ co105 from by omega); clear hr107 hC107 hroom107 hi0107 hsz107; have KY107 := Aside0.mk hy107; clear hy107; have KL107 := Aside0.mk (show ((ji92) : Int).toNat ≤ t467.length from by omega); replace q107 := eq_true q107; have q108 : ((ji92) : Int) ≤ ((t470.length : Int) : Int) := of_decide_eq_true (by first | (with_reducible assumption) | assumption); obtain ⟨i0108, hi0108, _, hsz108, _⟩ := info_parts info3; have hroom108 : t470.length ≤ co106 := (Kd.R_reads' HO_7.out).2.1; have hC108 : Kd.C (Kd.int .i64) _ Ao106 t470.length t470 := (Kd.R_reads' HO_7.out).2.2; have hcut108 := cut_to (P := Try.prog) 25 3 .i64 Try.underlying25 hi0108 Ao106 t470.length co106 (ji92) (of_decide_eq_true (by first | (with_reducible assumption) | assumption)) q108 hroom108; have hr108 := Kd.C_take (m := ((ji92) : Int).toNat) hC108 (by omega); have hy108 : y491.length = ((ji92) : Int).toNat := (by rw [Ny491.out, List.length_take]; omega); rw [← Ny491.out] at hr108; rw [← hy108] at hcut108; have HR494 := Aside0.mk hr108; have HC494 := Aside0.mk (show y491.length ≤ co106 from by omega); clear hr108 hC108 hroom108 hi0108 hsz108; have KY108 := Aside0.mk hy108; clear hy108; have KL108 := Aside0.mk (show ((ji92) : Int).toNat ≤ t470.length from by omega); replace q108 := eq_true q108) | (go_at_call 16; (with_reducible refine (phaetonref01_Same.calls kj43 _ _ y487 _ _ y491 t495 _ ?side1 ?side2 ?side3 ?side4 A100.out).mono ?_); (case side1 => repeat (first | exact (by repeat (first | (with_reducible exact HR490.out) | (with_reducible refine Kd.C_alloc ?_ _) | (with_reducible refine Kd.C_drewN ?_ _) | (with_reducible refine Kd.C_drew ?_) | exact HR490.out)) | (with_reducible refine Kd.C_alloc ?_ _) | (with_reducible refine Kd.C_drewN ?_ _) | (with_reducible refine Kd.C_drew ?_))); (case side2 => exact HC490.out); (case side3 => repeat (first | exact (by repeat (first | (with_reducible exact HR494.out) | (with_reducible refine Kd.C_alloc ?_ _) | (with_reducible refine Kd.C_drewN ?_ _) | (with_reducible refine Kd.C_drew ?_) | exact HR494.out)) | (with_reducible refine Kd.C_alloc ?_ _) | (with_reducible refine Kd.C_drewN ?_ _) | (with_reducible refine Kd.C_drew ?_))); (case side4 => exact HC494.out); rintro e w' ⟨rfl, ⟨nd, rfl⟩⟩; (try first | exact ⟨rfl, _, World.drewN_drewN _ _ _⟩ | exact ⟨rfl, _, Eq.trans (World.drewN_drewN _ _ _) (congrArg (World.drewN _) (Nat.add_assoc _ _ _))⟩))))
                              go_ret
                              exact ⟨by first | rfl | (simp [errW_none, errW_some] <;> rfl) | (simp only [← hji92]; first | rfl | (simp [errW_none, errW_some] <;> rfl)) | (simp [*, errW_none, errW_some] <;> rfl), by repeat (first | (with_reducible first | exact HB.out | apply below_alloc | apply pw_below_drewN | apply below_drew1 | refine below_set ?_ GE460.out | refine below_set ?_ GE461.out) | exact HB.out)⟩
                            · rw [if_neg c101] at H
                              exact absurd H (by simp)
                          · rw [if_neg c99] at H
                            exact absurd H (by simp)
                        · rw [if_neg c97] at H
                          exact absurd H (by simp)
                      · rw [if_neg c96] at H
                        exact absurd H (by simp)
                    · rw [if_neg c95] at H
                      exact absurd H (by simp)
                  · replace c93 := Bool.eq_false_iff.mpr c93
                    subst c93
                    have H1 : (none) = some r := by rw [if_neg (show ¬ (false = true) by decide)] at H; exact H
                    clear H
                    have H := H1
                    clear H1
                    exact absurd H (by simp)
                · rw [if_neg c91] at H
                  have c91b0 : (a0_1 == a1_1) = false := beq_eq_false_iff_ne.mpr c91
                  have c91b1 : (a0_1 != a1_1) = true := bne_iff_ne.mpr c91
                  obtain ⟨ji109, hji109⟩ : ∃ j_ : Int, (mn (t467.length : Int) (t470.length : Int)) = j_ := ⟨_, rfl⟩
                  replace H : (if t462 = true then ((phaetonref01_Same.f kj43 t467 t470).bind fun t496 => (if (t496 == false) = true then (if 0 ≤ (ji109) then (if (ji109) ≤ (t467.length : Int) then (if (ji109) ≤ (t470.length : Int) then ((phaetonref01_Same.f kj43 (t467.take ((ji109) : Int).toNat) (t470.take ((ji109) : Int).toNat)).bind fun t505 => (if (t505 == false) = true then (some true) else (none))) else (none)) else (none)) else (none)) else (none))) else (none)) = some r := by first | (rw [hji109] at H; exact H) | (simp only [hji109] at H ⊢; exact H)
                  have hji109_ : (if (t470.length : Int) < (t467.length : Int) then (t470.length : Int) else (t467.length : Int)) = ji109 := hji109
                  have hji109n : (if t470.length < t467.length then (t470.length : Int) else (t467.length : Int)) = ji109 := by rw [← hji109_]; simp only [Int.ofNat_lt]
                  by_cases c110 : t462 = true
                  · subst c110
                    have H1 : ((phaetonref01_Same.f kj43 t467 t470).bind fun t496 => (if (t496 == false) = true then (if 0 ≤ (ji109) then (if (ji109) ≤ (t467.length : Int) then (if (ji109) ≤ (t470.length : Int) then ((phaetonref01_Same.f kj43 (t467.take ((ji109) : Int).toNat) (t470.take ((ji109) : Int).toNat)).bind fun t505 => (if (t505 == false) = true then (some true) else (none))) else (none)) else (none)) else (none)) else (none))) = some r := by rw [if_pos rfl] at H; exact H
                    clear H
                    have H := H1
                    clear H1
                    replace H := Option.bind_eq_some_iff.mp H
                    obtain ⟨t496, A1110, H⟩ := H
                    replace H : (if (t496 == false) = true then (if 0 ≤ (ji109) then (if (ji109) ≤ (t467.length : Int) then (if (ji109) ≤ (t470.length : Int) then ((phaetonref01_Same.f kj43 (t467.take ((ji109) : Int).toNat) (t470.take ((ji109) : Int).toNat)).bind fun t505 => (if (t505 == false) = true then (some true) else (none))) else (none)) else (none)) else (none)) else (none)) = some r := H
                    have A111 := Aside0.mk A1110
                    clear A1110
                    by_cases c112 : (t496 == false) = true
                    · rw [if_pos c112] at H
                      have c112b0 : (t496 == false) = true := c112
                      (try (have c112b1 : decide (t496 = false) = true := by simpa using c112))
                      (try (have c112b2 : (t496 == false) = true := by simpa using c112))
                      clear c112
                      by_cases c113 : 0 ≤ (ji109)
                      · rw [if_pos c113] at H
                        have c113b0 := eq_true c113
                        have c113b1 : decide (0 ≤ (ji109)) = true := decide_eq_true c113
                        have c113m : max (ji109) 0 = (ji109) := by omega
                        clear c113
                        by_cases c114 : (ji109) ≤ (t467.length : Int)
                        · rw [if_pos c114] at H
                          have c114b0 := eq_true c114
                          have c114b1 : decide ((ji109) ≤ (t467.length : Int)) = true := decide_eq_true c114
                          clear c114
                          obtain ⟨y497, hy497⟩ : ∃ y_ : List Int, y_ = (t467.take ((ji109) : Int).toNat) := ⟨_, rfl⟩
                          replace H : (if (ji109) ≤ (t470.length : Int) then ((phaetonref01_Same.f kj43 y497 (t470.take ((ji109) : Int).toNat)).bind fun t505 => (if (t505 == false) = true then (some true) else (none))) else (none)) = some r := by first | (rw [hy497]; with_reducible exact H) | (have H2_ := (Option.bind_some _ _).symm.trans H; rw [hy497]; with_reducible exact H2_) | (have H2_ := (Option.bind_some _ _).symm.trans H; with_reducible exact H2_) | with_reducible exact H | (rw [hy497]; exact H) | exact H
                          have Ny497 := Aside0.mk hy497
                          clear hy497
                          have c115b0 := eq_true (of_decide_eq_true (by first | (with_reducible assumption) | assumption) : 0 ≤ (ji109))
                          by_cases c116 : (ji109) ≤ (t470.length : Int)
                          · rw [if_pos c116] at H
                            have c116b0 := eq_true c116
                            have c116b1 : decide ((ji109) ≤ (t470.length : Int)) = true := decide_eq_true c116
                            clear c116
                            obtain ⟨y501, hy501⟩ : ∃ y_ : List Int, y_ = (t470.take ((ji109) : Int).toNat) := ⟨_, rfl⟩
                            replace H : ((phaetonref01_Same.f kj43 y497 y501).bind fun t505 => (if (t505 == false) = true then (some true) else (none))) = some r := by first | (rw [hy501]; with_reducible exact H) | (have H2_ := (Option.bind_some _ _).symm.trans H; rw [hy501]; with_reducible exact H2_) | (have H2_ := (Option.bind_some _ _).symm.trans H; with_reducible exact H2_) | with_reducible exact H | (rw [hy501]; exact H) | exact H
                            have Ny501 := Aside0.mk hy501
                            clear hy501
                            replace H := Option.bind_eq_some_iff.mp H
                            obtain ⟨t505, A1170, H⟩ := H
                            replace H : (if (t505 == false) = true then (some true) else (none)) = some r := H
                            have A117 := Aside0.mk A1170
                            clear A1170
                            by_cases c118 : (t505 == false) = true
                            · rw [if_pos c118] at H
                              have c118b0 : (t505 == false) = true := c118
                              (try (have c118b1 : decide (t505 = false) = true := by simpa using c118))
                              (try (have c118b2 : (t505 == false) = true := by simpa using c118))
                              clear c118
                              obtain rfl := Option.some.inj H
                              have hnb119 := NB460_461.out
                              have hnc119 := NB461_460.out
                              have hcz120_0 : wc.cell? ⟨gb460, 0, none⟩ = some (.bool a0_0) := (blk_cell BK460.out 0).trans rfl
                              have hcz120_1 : wc.cell? ⟨gb460, 1, none⟩ = some (.int .i64 a0_1) := (blk_cell BK460.out 1).trans rfl
                              have hcz120_2 : wc.cell? ⟨gb460, 2, none⟩ = some (.bool a0_2) := (blk_cell BK460.out 2).trans rfl
                              have hcz120_3 : wc.cell? ⟨gb460, 3, none⟩ = some (.int .i64 a0_3) := (blk_cell BK460.out 3).trans rfl
                              have hcz120_4 : wc.cell? ⟨gb460, 4, none⟩ = some (.slice A0_4 l0_4.length c0_4) := (blk_cell BK460.out 4).trans rfl
                              have hfz120_0 := blk_frozen BK460.out 0
                              have hfz120_1 := blk_frozen BK460.out 1
                              have hfz120_2 := blk_frozen BK460.out 2
                              have hfz120_3 := blk_frozen BK460.out 3
                              have hfz120_4 := blk_frozen BK460.out 4
                              have hcz121_0 : wc.cell? ⟨gb461, 0, none⟩ = some (.bool a1_0) := (blk_cell BK461.out 0).trans rfl
                              have hcz121_1 : wc.cell? ⟨gb461, 1, none⟩ = some (.int .i64 a1_1) := (blk_cell BK461.out 1).trans rfl
                              have hcz121_2 : wc.cell? ⟨gb461, 2, none⟩ = some (.bool a1_2) := (blk_cell BK461.out 2).trans rfl
                              have hcz121_3 : wc.cell? ⟨gb461, 3, none⟩ = some (.int .i64 a1_3) := (blk_cell BK461.out 3).trans rfl
                              have hcz121_4 : wc.cell? ⟨gb461, 4, none⟩ = some (.slice A1_4 l1_4.length c1_4) := (blk_cell BK461.out 4).trans rfl
                              have hfz121_0 := blk_frozen BK461.out 0
                              have hfz121_1 := blk_frozen BK461.out 1
                              have hfz121_2 := blk_frozen BK461.out 2
                              have hfz121_3 := blk_frozen BK461.out 3
                              have hfz121_4 := blk_frozen BK461.out 4
                              obtain ⟨Ao122, co122, eo122⟩ := Kd.R_slice HO_6.out
                              subst eo122
                              obtain ⟨Ao123, co123, eo123⟩ := Kd.R_slice HO_7.out
                              subst eo123
                              go_wp2_with (first | (go_at_call 16; (with_reducible refine (phaetonref01_Same.calls kj43 _ _ t467 _ _ t470 t496 _ ?side1 ?side2 ?side3 ?side4 A111.out).mono ?_); (case side1 => repeat (first | exact (Kd.R_reads' HO_6.out).2.2 | (with_reducible refine Kd.C_alloc ?_ _) | (with_reducible refine Kd.C_drewN ?_ _) | (with_reducible refine Kd.C_drew ?_))); (case side2 => exact (Kd.R_reads' HO_6.out).2.1); (case side3 => repeat (first | exact (Kd.R_reads' HO_7.out).2.2 | (with_reducible refine Kd.C_alloc ?_ _) | (with_reducible refine Kd.C_drewN ?_ _) | (with_reducible refine Kd.C_drew ?_))); (case side4 => exact (Kd.R_reads' HO_7.out).2.1); rintro e w' ⟨rfl, ⟨nd, rfl⟩⟩; (try first | exact ⟨rfl, _, World.drewN_drewN _ _ _⟩ | exact ⟨rfl, _, Eq.trans (World.drewN_drewN _ _ _) (congrArg (World.drewN _) (Nat.add_assoc _ _ _))⟩); have q124 : ((ji109) : Int) ≤ ((t467.length : Int) : Int) := of_decide_eq_true (by first | (with_reducible assumption) | assumption); obtain ⟨i0124, hi0124, _, hsz124, _⟩ := info_parts info3; have hroom124 : t467.length ≤ co122 := (Kd.R_reads' HO_6.out).2.1; have hC124 : Kd.C (Kd.int .i64) _ Ao122 t467.length t467 := (Kd.R_reads' HO_6.out).2.2; have hcut124 := cut_to (P := Try.prog) 25 3 .i64 Try.underlying25 hi0124 Ao122 t467.length co122 (ji109) (of_decide_eq_true (by first | (with_reducible assumption) | assumption)) q124 hroom124; have hr124 := Kd.C_take (m := ((ji109) : Int).toNat) hC124 (by omega); have hy124 : y497.length = ((ji109) : Int).toNat := (by rw [Ny497.out, List.length_take]; omega); rw [← Ny497.out] at hr124; rw [← hy124] at hcut124; have HR500 := Aside0.mk hr124; have HC500 := Aside0.mk (show y497.length ≤ co122 from by omega); clear hr124 hC124 hroom124 hi0124 hsz124; have KY124 := Aside0.mk hy124; clear hy124; have KL124 := Aside0.mk (show ((ji109) : Int).toNat ≤ t467.length from by omega); replace q124 := eq_true q124; have q125 : ((ji109) : Int) ≤ ((t470.length : Int) : Int) := of_decide_eq_true (by first | (with_reducible assumption) | assumption); obtain ⟨i0125, hi0125, _, hsz125, _⟩ := info_parts info3; have hroom125 : t470.length ≤ co123 := (Kd.R_reads' HO_7.out).2.1; have hC125 : Kd.C (Kd.int .i64) _ Ao123 t470.length t470 := (Kd.R_reads' HO_7.out).2.2; have hcut125 := cut_to (P := Try.prog) 25 3 .i64 Try.underlying25 hi0125 Ao123 t470.length co123 (ji109) (of_decide_eq_true (by first | (with_reducible assumption) | assumption)) q125 hroom125; have hr125 := Kd.C_take (m := ((ji109) : Int).toNat) hC125 (by omega); have hy125 : y501.length = ((ji109) : Int).toNat := (by rw [Ny501.out, List.length_take]; omega); rw [← Ny501.out] at hr125; rw [← hy125] at hcut125; have HR504 := Aside0.mk hr125; have HC504 := Aside0.mk (show y501.length ≤ co123 from by omega); clear hr125 hC125 hroom125 hi0125 hsz125; have KY125 := Aside0.mk hy125; clear hy125; have KL125 := Aside0.mk (show ((ji109) : Int).toNat ≤ t470.length from by omega); replace q125 := eq_true q125) | (go_at_call 16; (with_reducible refine (phaetonref01_Same.calls kj43 _ _ y497 _ _ y501 t505 _ ?side1 ?side2 ?side3 ?side4 A117.out).mono ?_); (case side1 => repeat (first | exact (by repeat (first | (with_reducible exact HR500.out) | (with_reducible refine Kd.C_alloc ?_ _) | (with_reducible refine Kd.C_drewN ?_ _) | (with_reducible refine Kd.C_drew ?_) | exact HR500.out)) | (with_reducible refine Kd.C_alloc ?_ _) | (with_reducible refine Kd.C_drewN ?_ _) | (with_reducible refine Kd.C_drew ?_))); (case side2 => exact HC500.out); (case side3 => repeat (first | exact (by repeat (first | (with_reducible exact HR504.out) | (with_reducible refine Kd.C_alloc ?_ _) | (with_reducible refine Kd.C_drewN ?_ _) | (with_reducible refine Kd.C_drew ?_) | exact HR504.out)) | (with_reducible refine Kd.C_alloc ?_ _) | (with_reducible refine Kd.C_drewN ?_ _) | (with_reducible refine Kd.C_drew ?_))); (case side4 => exact HC504.out); rintro e w' ⟨rfl, ⟨nd, rfl⟩⟩; (try first | exact ⟨rfl, _, World.drewN_drewN _ _ _⟩ | exact ⟨rfl, _, Eq.trans (World.drewN_drewN _ _ _) (congrArg (World.drewN _) (Nat.add_assoc _ _ _))⟩)))
                              repeat (go_quiet (first | (go_at_call 16; (with_reducible refine (phaetonref01_Same.calls kj43 _ _ t467 _ _ t470 t496 _ ?side1 ?side2 ?side3 ?side4 A111.out).mono ?_); (case side1 => repeat (first | exact (Kd.R_reads' HO_6.out).2.2 | (with_reducible refine Kd.C_alloc ?_ _) | (with_reducible refine Kd.C_drewN ?_ _) | (with_reducible refine Kd.C_drew ?_))); (case side2 => exact (Kd.R_reads' HO_6.out).2.1); (case side3 => repeat (first | exact (Kd.R_reads' HO_7.out).2.2 | (with_reducible refine Kd.C_alloc ?_ _) | (with_reducible refine Kd.C_drewN ?_ _) | (with_reducible refine Kd.C_drew ?_))); (case side4 => exact (Kd.R_reads' HO_7.out).2.1); rintro e w' ⟨rfl, ⟨nd, rfl⟩⟩; (try first | exact ⟨rfl, _, World.drewN_drewN _ _ _⟩ | exact ⟨rfl, _, Eq.trans (World.drewN_drewN _ _ _) (congrArg (World.drewN _) (Nat.add_assoc _ _ _))⟩); have q124 : ((ji109) : Int) ≤ ((t467.length : Int) : Int) := of_decide_eq_true (by first | (with_reducible assumption) | assumption); obtain ⟨i0124, hi0124, _, hsz124, _⟩ := info_parts info3; have hroom124 : t467.length ≤ co122 := (Kd.R_reads' HO_6.out).2.1; have hC124 : Kd.C (Kd.int .i64) _ Ao122 t467.length t467 := (Kd.R_reads' HO_6.out).2.2; have hcut124 := cut_to (P := Try.prog) 25 3 .i64 Try.underlying25 hi0124 Ao122 t467.length co122 (ji109) (of_decide_eq_true (by first | (with_reducible assumption) | assumption)) q124 hroom124; have hr124 := Kd.C_take (m := ((ji109) : Int).toNat) hC124 (by omega); have hy124 : y497.length = ((ji109) : Int).toNat := (by rw [Ny497.out, List.length_take]; omega); rw [← Ny497.out] at hr124; rw [← hy124] at hcut124; have HR500 := Aside0.mk hr124; have HC500 := Aside0.mk (show y497.length ≤ co122 from by omega); clear hr124 hC124 hroom124 hi0124 hsz124; have KY124 := Aside0.mk hy124; clear hy124; have KL124 := Aside0.mk (show ((ji109) : Int).toNat ≤ t467.length from by omega); replace q124 := eq_true q124; have q125 : ((ji109) : Int) ≤ ((t470.length : Int) : Int) := of_decide_eq_true (by first | (with_reducible assumption) | assumption); obtain ⟨i0125, hi0125, _, hsz125, _⟩ := info_parts info3; have hroom125 : t470.length ≤ co123 := (Kd.R_reads' HO_7.out).2.1; have hC125 : Kd.C (Kd.int .i64) _ Ao123 t470.length t470 := (Kd.R_reads' HO_7.out).2.2; have hcut125 := cut_to (P := Try.prog) 25 3 .i64 Try.underlying25 hi0125 Ao123 t470.length co123 (ji109) (of_decide_eq_true (by first | (with_reducible assumption) | assumption)) q125 hroom125; have hr125 := Kd.C_take (m := ((ji109) : Int).toNat) hC125 (by omega); have hy125 : y501.length = ((ji109) : Int).toNat := (by rw [Ny501.out, List.length_take]; omega); rw [← Ny501.out] at hr125; rw [← hy125] at hcut125; have HR504 := Aside0.mk hr125; have HC504 := Aside0.mk (show y501.length ≤ co123 from by omega); clear hr125 hC125 hroom125 hi0125 hsz125; have KY125 := Aside0.mk hy125; clear hy125; have KL125 := Aside0.mk (show ((ji109) : Int).toNat ≤ t470.length from by omega); replace q125 := eq_true q125) | (go_at_call 16; (with_reducible refine (phaetonref01_Same.calls kj43 _ _ y497 _ _ y501 t505 _ ?side1 ?side2 ?side3 ?side4 A117.out).mono ?_); (case side1 => repeat (first | exact (by repeat (first | (with_reducible exact HR500.out) | (with_reducible refine Kd.C_alloc ?_ _) | (with_reducible refine Kd.C_drewN ?_ _) | (with_reducible refine Kd.C_drew ?_) | exact HR500.out)) | (with_reducible refine Kd.C_alloc ?_ _) | (with_reducible refine Kd.C_drewN ?_ _) | (with_reducible refine Kd.C_drew ?_))); (case side2 => exact HC500.out); (case side3 => repeat (first | exact (by repeat (first | (with_reducible exact HR504.out) | (with_reducible refine Kd.C_alloc ?_ _) | (with_reducible refine Kd.C_drewN ?_ _) | (with_reducible refine Kd.C_drew ?_) | exact HR504.out)) | (with_reducible refine Kd.C_alloc ?_ _) | (with_reducible refine Kd.C_drewN ?_ _) | (with_reducible refine Kd.C_drew ?_))); (case side4 => exact HC504.out); rintro e w' ⟨rfl, ⟨nd, rfl⟩⟩; (try first | exact ⟨rfl, _, World.drewN_drewN _ _ _⟩ | exact ⟨rfl, _, Eq.trans (World.drewN_drewN _ _ _) (congrArg (World.drewN _) (Nat.add_assoc _ _ _))⟩))); try go_wp2_with (first | (go_at_call 16; (with_reducible refine (phaetonref01_Same.calls kj43 _ _ t467 _ _ t470 t496 _ ?side1 ?side2 ?side3 ?side4 A111.out).mono ?_); (case side1 => repeat (first | exact (Kd.R_reads' HO_6.out).2.2 | (with_reducible refine Kd.C_alloc ?_ _) | (with_reducible refine Kd.C_drewN ?_ _) | (with_reducible refine Kd.C_drew ?_))); (case side2 => exact (Kd.R_reads' HO_6.out).2.1); (case side3 => repeat (first | exact (Kd.R_reads' HO_7.out).2.2 | (with_reducible refine Kd.C_alloc ?_ _) | (with_reducible refine Kd.C_drewN ?_ _) | (with_reducible refine Kd.C_drew ?_))); (case side4 => exact (Kd.R_reads' HO_7.out).2.1); rintro e w' ⟨rfl, ⟨nd, rfl⟩⟩; (try first | exact ⟨rfl, _, World.drewN_drewN _ _ _⟩ | exact ⟨rfl, _, Eq.trans (World.drewN_drewN _ _ _) (congrArg (World.drewN _) (Nat.add_assoc _ _ _))⟩); have q124 : ((ji109) : Int) ≤ ((t467.length : Int) : Int) := of_decide_eq_true (by first | (with_reducible assumption) | assumption); obtain ⟨i0124, hi0124, _, hsz124, _⟩ := info_parts info3; have hroom124 : t467.length ≤ co122 := (Kd.R_reads' HO_6.out).2.1; have hC124 : Kd.C (Kd.int .i64) _ Ao122 t467.length t467 := (Kd.R_reads' HO_6.out).2.2; have hcut124 := cut_to (P := Try.prog) 25 3 .i64 Try.underlying25 hi0124 Ao122 t467.length co122 (ji109) (of_decide_eq_true (by first | (with_reducible assumption) | assumption)) q124 hroom124; have hr124 := Kd.C_take (m := ((ji109) : Int).toNat) hC124 (by omega); have hy124 : y497.length = ((ji109) : Int).toNat := (by rw [Ny497.out, List.length_take]; omega); rw [← Ny497.out] at hr124; rw [← hy124] at hcut124; have HR500 := Aside0.mk hr124; have HC500 := Aside0.mk (show y497.length ≤ co122 from by omega); clear hr124 hC124 hroom124 hi0124 hsz124; have KY124 := Aside0.mk hy124; clear hy124; have KL124 := Aside0.mk (show ((ji109) : Int).toNat ≤ t467.length from by omega); replace q124 := eq_true q124; have q125 : ((ji109) : Int) ≤ ((t470.length : Int) : Int) := of_decide_eq_true (by first | (with_reducible assumption) | assumption); obtain ⟨i0125, hi0125, _, hsz125, _⟩ := info_parts info3; have hroom125 : t470.length ≤ co123 := (Kd.R_reads' HO_7.out).2.1; have hC125 : Kd.C (Kd.int .i64) _ Ao123 t470.length t470 := (Kd.R_reads' HO_7.out).2.2; have hcut125 := cut_to (P := Try.prog) 25 3 .i64 Try.underlying25 hi0125 Ao123 t470.length co123 (ji109) (of_decide_eq_true (by first | (with_reducible assumption) | assumption)) q125 hroom125; have hr125 := Kd.C_take (m := ((ji109) : Int).toNat) hC125 (by omega); have hy125 : y501.length = ((ji109) : Int).toNat := (by rw [Ny501.out, List.length_take]; omega); rw [← Ny501.out] at hr125; rw [← hy125] at hcut125; have HR504 := Aside0.mk hr125; have HC504 := Aside0.mk (show y501.length ≤ co123 from by omega); clear hr125 hC125 hroom125 hi0125 hsz125; have KY125 := Aside0.mk hy125; clear hy125; have KL125 := Aside0.mk (show ((ji109) : Int).toNat ≤ t470.length from by omega); replace q125 := eq_true q125) | (go_at_call 16; (with_reducible refine (phaetonref01_Same.calls kj43 _ _ y497 _ _ y501 t505 _ ?side1 ?side2 ?side3 ?side4 A117.out).mono ?_); (case side1 => repeat (first | exact (by repeat (first | (with_reducible exact HR500.out) | (with_reducible refine Kd.C_alloc ?_ _) | (with_reducible refine Kd.C_drewN ?_ _) | (with_reducible refine Kd.C_drew ?_) | exact HR500.out)) | (with_reducible refine Kd.C_alloc ?_ _) | (with_reducible refine Kd.C_drewN ?_ _) | (with_reducible refine Kd.C_drew ?_))); (case side2 => exact HC500.out); (case side3 => repeat (first | exact (by repeat (first | (with_reducible exact HR504.out) | (with_reducible refine Kd.C_alloc ?_ _) | (with_reducible refine Kd.C_drewN ?_ _) | (with_reducible refine Kd.C_drew ?_) | exact HR504.out)) | (with_reducible refine Kd.C_alloc ?_ _) | (with_reducible refine Kd.C_drewN ?_ _) | (with_reducible refine Kd.C_drew ?_))); (case side4 => exact HC504.out); rintro e w' ⟨rfl, ⟨nd, rfl⟩⟩; (try first | exact ⟨rfl, _, World.drewN_drewN _ _ _⟩ | exact ⟨rfl, _, Eq.trans (World.drewN_drewN _ _ _) (congrArg (World.drewN _) (Nat.add_assoc _ _ _))⟩))))
                              go_ret
                              exact ⟨by first | rfl | (simp [errW_none, errW_some] <;> rfl) | (simp only [← hji109]; first | rfl | (simp [errW_none, errW_some] <;> rfl)) | (simp [*, errW_none, errW_some] <;> rfl), by repeat (first | (with_reducible first | exact HB.out | apply below_alloc | apply pw_below_drewN | apply below_drew1 | refine below_set ?_ GE460.out | refine below_set ?_ GE461.out) | exact HB.out)⟩
                            · rw [if_neg c118] at H
                              exact absurd H (by simp)
                          · rw [if_neg c116] at H
                            exact absurd H (by simp)
                        · rw [if_neg c114] at H
                          exact absurd H (by simp)
                      · rw [if_neg c113] at H
                        exact absurd H (by simp)
                    · rw [if_neg c112] at H
                      exact absurd H (by simp)
                  · replace c110 := Bool.eq_false_iff.mpr c110
                    subst c110
                    have H1 : (none) = some r := by rw [if_neg (show ¬ (false = true) by decide)] at H; exact H
                    clear H
                    have H := H1
                    clear H1
                    exact absurd H (by simp)
              · rw [if_neg c90] at H
                have c90b0 : (a0_0 == a1_0) = false := by simpa using c90
                (try (have c90b1 : decide (a0_0 = a1_0) = false := by simpa using c90))
                (try (have c90b2 : (a0_0 == a1_0) = false := by simpa using c90))
                (try (have c90b3 : ¬ (a0_0 = a1_0) := by simpa using c90))
                clear c90
                obtain ⟨ji126, hji126⟩ : ∃ j_ : Int, (mn (t467.length : Int) (t470.length : Int)) = j_ := ⟨_, rfl⟩
                replace H : (if t462 = true then ((phaetonref01_Same.f kj43 t467 t470).bind fun t506 => (if (t506 == false) = true then (if 0 ≤ (ji126) then (if (ji126) ≤ (t467.length : Int) then (if (ji126) ≤ (t470.length : Int) then ((phaetonref01_Same.f kj43 (t467.take ((ji126) : Int).toNat) (t470.take ((ji126) : Int).toNat)).bind fun t515 => (if (t515 == false) = true then (some true) else (none))) else (none)) else (none)) else (none)) else (none))) else (none)) = some r := by first | (rw [hji126] at H; exact H) | (simp only [hji126] at H ⊢; exact H)
                have hji126_ : (if (t470.length : Int) < (t467.length : Int) then (t470.length : Int) else (t467.length : Int)) = ji126 := hji126
                have hji126n : (if t470.length < t467.length then (t470.length : Int) else (t467.length : Int)) = ji126 := by rw [← hji126_]; simp only [Int.ofNat_lt]
                by_cases c127 : t462 = true
                · subst c127
                  have H1 : ((phaetonref01_Same.f kj43 t467 t470).bind fun t506 => (if (t506 == false) = true then (if 0 ≤ (ji126) then (if (ji126) ≤ (t467.length : Int) then (if (ji126) ≤ (t470.length : Int) then ((phaetonref01_Same.f kj43 (t467.take ((ji126) : Int).toNat) (t470.take ((ji126) : Int).toNat)).bind fun t515 => (if (t515 == false) = true then (some true) else (none))) else (none)) else (none)) else (none)) else (none))) = some r := by rw [if_pos rfl] at H; exact H
                  clear H
                  have H := H1
                  clear H1
                  replace H := Option.bind_eq_some_iff.mp H
                  obtain ⟨t506, A1280, H⟩ := H
                  replace H : (if (t506 == false) = true then (if 0 ≤ (ji126) then (if (ji126) ≤ (t467.length : Int) then (if (ji126) ≤ (t470.length : Int) then ((phaetonref01_Same.f kj43 (t467.take ((ji126) : Int).toNat) (t470.take ((ji126) : Int).toNat)).bind fun t515 => (if (t515 == false) = true then (some true) else (none))) else (none)) else (none)) else (none)) else (none)) = some r := H
                  have A128 := Aside0.mk A1280
                  clear A1280
                  by_cases c129 : (t506 == false) = true
                  · rw [if_pos c129] at H
                    have c129b0 : (t506 == false) = true := c129
                    (try (have c129b1 : decide (t506 = false) = true := by simpa using c129))
                    (try (have c129b2 : (t506 == false) = true := by simpa using c129))
                    clear c129
                    by_cases c130 : 0 ≤ (ji126)
                    · rw [if_pos c130] at H
                      have c130b0 := eq_true c130
                      have c130b1 : decide (0 ≤ (ji126)) = true := decide_eq_true c130
                      have c130m : max (ji126) 0 = (ji126) := by omega
                      clear c130
                      by_cases c131 : (ji126) ≤ (t467.length : Int)
                      · rw [if_pos c131] at H
                        have c131b0 := eq_true c131
                        have c131b1 : decide ((ji126) ≤ (t467.length : Int)) = true := decide_eq_true c131
                        clear c131
                        obtain ⟨y507, hy507⟩ : ∃ y_ : List Int, y_ = (t467.take ((ji126) : Int).toNat) := ⟨_, rfl⟩
                        replace H : (if (ji126) ≤ (t470.length : Int) then ((phaetonref01_Same.f kj43 y507 (t470.take ((ji126) : Int).toNat)).bind fun t515 => (if (t515 == false) = true then (some true) else (none))) else (none)) = some r := by first | (rw [hy507]; with_reducible exact H) | (have H2_ := (Option.bind_some _ _).symm.trans H; rw [hy507]; with_reducible exact H2_) | (have H2_ := (Option.bind_some _ _).symm.trans H; with_reducible exact H2_) | with_reducible exact H | (rw [hy507]; exact H) | exact H
                        have Ny507 := Aside0.mk hy507
                        clear hy507
                        have c132b0 := eq_true (of_decide_eq_true (by first | (with_reducible assumption) | assumption) : 0 ≤ (ji126))
                        by_cases c133 : (ji126) ≤ (t470.length : Int)
                        · rw [if_pos c133] at H
                          have c133b0 := eq_true c133
                          have c133b1 : decide ((ji126) ≤ (t470.length : Int)) = true := decide_eq_true c133
                          clear c133
                          obtain ⟨y511, hy511⟩ : ∃ y_ : List Int, y_ = (t470.take ((ji126) : Int).toNat) := ⟨_, rfl⟩
                          replace H : ((phaetonref01_Same.f kj43 y507 y511).bind fun t515 => (if (t515 == false) = true then (some true) else (none))) = some r := by first | (rw [hy511]; with_reducible exact H) | (have H2_ := (Option.bind_some _ _).symm.trans H; rw [hy511]; with_reducible exact H2_) | (have H2_ := (Option.bind_some _ _).symm.trans H; with_reducible exact H2_) | with_reducible exact H | (rw [hy511]; exact H) | exact H
                          have Ny511 := Aside0.mk hy511
                          clear hy511
                          replace H := Option.bind_eq_some_iff.mp H
                          obtain ⟨t515, A1340, H⟩ := H
                          replace H : (if (t515 == false) = true then (some true) else (none)) = some r := H
                          have A134 := Aside0.mk A1340
                          clear A1340
                          by_cases c135 : (t515 == false) = true
                          · rw [if_pos c135] at H
                            have c135b0 : (t515 == false) = true := c135
                            (try (have c135b1 : decide (t515 = false) = true := by simpa using c135))
                            (try (have c135b2 : (t515 == false) = true := by simpa using c135))
                            clear c135
                            obtain rfl := Option.some.inj H
                            have hnb136 := NB460_461.out
                            have hnc136 := NB461_460.out
                            have hcz137_0 : wc.cell? ⟨gb460, 0, none⟩ = some (.bool a0_0) := (blk_cell BK460.out 0).trans rfl
                            have hcz137_1 : wc.cell? ⟨gb460, 1, none⟩ = some (.int .i64 a0_1) := (blk_cell BK460.out 1).trans rfl
                            have hcz137_2 : wc.cell? ⟨gb460, 2, none⟩ = some (.bool a0_2) := (blk_cell BK460.out 2).trans rfl
                            have hcz137_3 : wc.cell? ⟨gb460, 3, none⟩ = some (.int .i64 a0_3) := (blk_cell BK460.out 3).trans rfl
                            have hcz137_4 : wc.cell? ⟨gb460, 4, none⟩ = some (.slice A0_4 l0_4.length c0_4) := (blk_cell BK460.out 4).trans rfl
                            have hfz137_0 := blk_frozen BK460.out 0
                            have hfz137_1 := blk_frozen BK460.out 1
                            have hfz137_2 := blk_frozen BK460.out 2
                            have hfz137_3 := blk_frozen BK460.out 3
                            have hfz137_4 := blk_frozen BK460.out 4
                            have hcz138_0 : wc.cell? ⟨gb461, 0, none⟩ = some (.bool a1_0) := (blk_cell BK461.out 0).trans rfl
                            have hcz138_1 : wc.cell? ⟨gb461, 1, none⟩ = some (.int .i64 a1_1) := (blk_cell BK461.out 1).trans rfl
                            have hcz138_2 : wc.cell? ⟨gb461, 2, none⟩ = some (.bool a1_2) := (blk_cell BK461.out 2).trans rfl
                            have hcz138_3 : wc.cell? ⟨gb461, 3, none⟩ = some (.int .i64 a1_3) := (blk_cell BK461.out 3).trans rfl
                            have hcz138_4 : wc.cell? ⟨gb461, 4, none⟩ = some (.slice A1_4 l1_4.length c1_4) := (blk_cell BK461.out 4).trans rfl
                            have hfz138_0 := blk_frozen BK461.out 0
                            have hfz138_1 := blk_frozen BK461.out 1
                            have hfz138_2 := blk_frozen BK461.out 2
                            have hfz138_3 := blk_frozen BK461.out 3
                            have hfz138_4 := blk_frozen BK461.out 4
                            obtain ⟨Ao139, co139, eo139⟩ := Kd.R_slice HO_6.out
                            subst eo139
                            obtain ⟨Ao140, co140, eo140⟩ := Kd.R_slice HO_7.out
                            subst eo140
                            go_wp2_with (first | (go_at_call 16; (with_reducible refine (phaetonref01_Same.calls kj43 _ _ t467 _ _ t470 t506 _ ?side1 ?side2 ?side3 ?side4 A128.out).mono ?_); (case side1 => repeat (first | exact (Kd.R_reads' HO_6.out).2.2 | (with_reducible refine Kd.C_alloc ?_ _) | (with_reducible refine Kd.C_drewN ?_ _) | (with_reducible refine Kd.C_drew ?_))); (case side2 => exact (Kd.R_reads' HO_6.out).2.1); (case side3 => repeat (first | exact (Kd.R_reads' HO_7.out).2.2 | (with_reducible refine Kd.C_alloc ?_ _) | (with_reducible refine Kd.C_drewN ?_ _) | (with_reducible refine Kd.C_drew ?_))); (case side4 => exact (Kd.R_reads' HO_7.out).2.1); rintro e w' ⟨rfl, ⟨nd, rfl⟩⟩; (try first | exact ⟨rfl, _, World.drewN_drewN _ _ _⟩ | exact ⟨rfl, _, Eq.trans (World.drewN_drewN _ _ _) (congrArg (World.drewN _) (Nat.add_assoc _ _ _))⟩); have q141 : ((ji126) : Int) ≤ ((t467.length : Int) : Int) := of_decide_eq_true (by first | (with_reducible assumption) | assumption); obtain ⟨i0141, hi0141, _, hsz141, _⟩ := info_parts info3; have hroom141 : t467.length ≤ co139 := (Kd.R_reads' HO_6.out).2.1; have hC141 : Kd.C (Kd.int .i64) _ Ao139 t467.length t467 := (Kd.R_reads' HO_6.out).2.2; have hcut141 := cut_to (P := Try.prog) 25 3 .i64 Try.underlying25 hi0141 Ao139 t467.length co139 (ji126) (of_decide_eq_true (by first | (with_reducible assumption) | assumption)) q141 hroom141; have hr141 := Kd.C_take (m := ((ji126) : Int).toNat) hC141 (by omega); have hy141 : y507.length = ((ji126) : Int).toNat := (by rw [Ny507.out, List.length_take]; omega); rw [← Ny507.out] at hr141; rw [← hy141] at hcut141; have HR510 := Aside0.mk hr141; have HC510 := Aside0.mk (show y507.length ≤ co139 from by omega); clear hr141 hC141 hroom141 hi0141 hsz141; have KY141 := Aside0.mk hy141; clear hy141; have KL141 := Aside0.mk (show ((ji126) : Int).toNat ≤ t467.length from by omega); replace q141 := eq_true q141; have q142 : ((ji126) : Int) ≤ ((t470.length : Int) : Int) := of_decide_eq_true (by first | (with_reducible assumption) | assumption); obtain ⟨i0142, hi0142, _, hsz142, _⟩ := info_parts info3; have hroom142 : t470.length ≤ co140 := (Kd.R_reads' HO_7.out).2.1; have hC142 : Kd.C (Kd.int .i64) _ Ao140 t470.length t470 := (Kd.R_reads' HO_7.out).2.2; have hcut142 := cut_to (P := Try.prog) 25 3 .i64 Try.underlying25 hi0142 Ao140 t470.length co140 (ji126) (of_decide_eq_true (by first | (with_reducible assumption) | assumption)) q142 hroom142; have hr142 := Kd.C_take (m := ((ji126) : Int).toNat) hC142 (by omega); have hy142 : y511.length = ((ji126) : Int).toNat := (by rw [Ny511.out, List.length_take]; omega); rw [← Ny511.out] at hr142; rw [← hy142] at hcut142; have HR514 := Aside0.mk hr142; have HC514 := Aside0.mk (show y511.length ≤ co140 from by omega); clear hr142 hC142 hroom142 hi0142 hsz142; have KY142 := Aside0.mk hy142; clear hy142; have KL142 := Aside0.mk (show ((ji126) : Int).toNat ≤ t470.length from by omega); replace q142 := eq_true q142) | (go_at_call 16; (with_reducible refine (phaetonref01_Same.calls kj43 _ _ y507 _ _ y511 t515 _ ?side1 ?side2 ?side3 ?side4 A134.out).mono ?_); (case side1 => repeat (first | exact (by repeat (first | (with_reducible exact HR510.out) | (with_reducible refine Kd.C_alloc ?_ _) | (with_reducible refine Kd.C_drewN ?_ _) | (with_reducible refine Kd.C_drew ?_) | exact HR510.out)) | (with_reducible refine Kd.C_alloc ?_ _) | (with_reducible refine Kd.C_drewN ?_ _) | (with_reducible refine Kd.C_drew ?_))); (case side2 => exact HC510.out); (case side3 => repeat (first | exact (by repeat (first | (with_reducible exact HR514.out) | (with_reducible refine Kd.C_alloc ?_ _) | (with_reducible refine Kd.C_drewN ?_ _) | (with_reducible refine Kd.C_drew ?_) | exact HR514.out)) | (with_reducible refine Kd.C_alloc ?_ _) | (with_reducible refine Kd.C_drewN ?_ _) | (with_reducible refine Kd.C_drew ?_))); (case side4 => exact HC514.out); rintro e w' ⟨rfl, ⟨nd, rfl⟩⟩; (try first | exact ⟨rfl, _, World.drewN_drewN _ _ _⟩ | exact ⟨rfl, _, Eq.trans (World.drewN_drewN _ _ _) (congrArg (World.drewN _) (Nat.add_assoc _ _ _))⟩)))
                            repeat (go_quiet (first | (go_at_call 16; (with_reducible refine (phaetonref01_Same.calls kj43 _ _ t467 _ _ t470 t506 _ ?side1 ?side2 ?side3 ?side4 A128.out).mono ?_); (case side1 => repeat (first | exact (Kd.R_reads' HO_6.out).2.2 | (with_reducible refine Kd.C_alloc ?_ _) | (with_reducible refine Kd.C_drewN ?_ _) | (with_reducible refine Kd.C_drew ?_))); (case side2 => exact (Kd.R_reads' HO_6.out).2.1); (case side3 => repeat (first | exact (Kd.R_reads' HO_7.out).2.2 | (with_reducible refine Kd.C_alloc ?_ _) | (with_reducible refine Kd.C_drewN ?_ _) | (with_reducible refine Kd.C_drew ?_))); (case side4 => exact (Kd.R_reads' HO_7.out).2.1); rintro e w' ⟨rfl, ⟨nd, rfl⟩⟩; (try first | exact ⟨rfl, _, World.drewN_drewN _ _ _⟩ | exact ⟨rfl, _, Eq.trans (World.drewN_drewN _ _ _) (congrArg (World.drewN _) (Nat.add_assoc _ _ _))⟩); have q141 : ((ji126) : Int) ≤ ((t467.length : Int) : Int) := of_decide_eq_true (by first | (with_reducible assumption) | assumption); obtain ⟨i0141, hi0141, _, hsz141, _⟩ := info_parts info3; have hroom141 : t467.length ≤ co139 := (Kd.R_reads' HO_6.out).2.1; have hC141 : Kd.C (Kd.int .i64) _ Ao139 t467.length t467 := (Kd.R_reads' HO_6.out).2.2; have hcut141 := cut_to (P := Try.prog) 25 3 .i64 Try.underlying25 hi0141 Ao139 t467.length co139 (ji126) (of_decide_eq_true (by first | (with_reducible assumption) | assumption)) q141 hroom141; have hr141 := Kd.C_take (m := ((ji126) : Int).toNat) hC141 (by omega); have hy141 : y507.length = ((ji126) : Int).toNat := (by rw [Ny507.out, List.length_take]; omega); rw [← Ny507.out] at hr141; rw [← hy141] at hcut141; have HR510 := Aside0.mk hr141; have HC510 := Aside0.mk (show y507.length ≤ co139 from by omega); clear hr141 hC141 hroom141 hi0141 hsz141; have KY141 := Aside0.mk hy141; clear hy141; have KL141 := Aside0.mk (show ((ji126) : Int).toNat ≤ t467.length from by omega); replace q141 := eq_true q141; have q142 : ((ji126) : Int) ≤ ((t470.length : Int) : Int) := of_decide_eq_true (by first | (with_reducible assumption) | assumption); obtain ⟨i0142, hi0142, _, hsz142, _⟩ := info_parts info3; have hroom142 : t470.length ≤ co140 := (Kd.R_reads' HO_7.out).2.1; have hC142 : Kd.C (Kd.int .i64) _ Ao140 t470.length t470 := (Kd.R_reads' HO_7.out).2.2; have hcut142 := cut_to (P := Try.prog) 25 3 .i64 Try.underlying25 hi0142 Ao140 t470.length co140 (ji126) (of_decide_eq_true (by first | (with_reducible assumption) | assumption)) q142 hroom142; have hr142 := Kd.C_take (m := ((ji126) : Int).toNat) hC142 (by omega); have hy142 : y511.length = ((ji126) : Int).toNat := (by rw [Ny511.out, List.length_take]; omega); rw [← Ny511.out] at hr142; rw [← hy142] at hcut142; have HR514 := Aside0.mk hr142; have HC514 := Aside0.mk (show y511.length ≤ co140 from by omega); clear hr142 hC142 hroom142 hi0142 hsz142; have KY142 := Aside0.mk hy142; clear hy142; have KL142 := Aside0.mk (show ((ji126) : Int).toNat ≤ t470.length from by omega); replace q142 := eq_true q142) | (go_at_call 16; (with_reducible refine (phaetonref01_Same.calls kj43 _ _ y507 _ _ y511 t515 _ ?side1 ?side2 ?side3 ?side4 A134.out).mono ?_); (case side1 => repeat (first | exact (by repeat (first | (with_reducible exact HR510.out) | (with_reducible refine Kd.C_alloc ?_ _) | (with_reducible refine Kd.C_drewN ?_ _) | (with_reducible refine Kd.C_drew ?_) | exact HR510.out)) | (with_reducible refine Kd.C_alloc ?_ _) | (with_reducible refine Kd.C_drewN ?_ _) | (with_reducible refine Kd.C_drew ?_))); (case side2 => exact HC510.out); (case side3 => repeat (first | exact (by repeat (first | (with_reducible exact HR514.out) | (with_reducible refine Kd.C_alloc ?_ _) | (with_reducible refine Kd.C_drewN ?_ _) | (with_reducible refine Kd.C_drew ?_) | exact HR514.out)) | (with_reducible refine Kd.C_alloc ?_ _) | (with_reducible refine Kd.C_drewN ?_ _) | (with_reducible refine Kd.C_drew ?_))); (case side4 => exact HC514.out); rintro e w' ⟨rfl, ⟨nd, rfl⟩⟩; (try first | exact ⟨rfl, _, World.drewN_drewN _ _ _⟩ | exact ⟨rfl, _, Eq.trans (World.drewN_drewN _ _ _) (congrArg (World.drewN _) (Nat.add_assoc _ _ _))⟩))); try go_wp2_with (first | (go_at_call 16; (with_reducible refine (phaetonref01_Same.calls kj43 _ _ t467 _ _ t470 t506 _ ?side1 ?side2 ?side3 ?side4 A128.out).mono ?_); (case side1 => repeat (first | exact (Kd.R_reads' HO_6.out).2.2 | (with_reducible refine Kd.C_alloc ?_ _) | (with_reducible refine Kd.C_drewN ?_ _) | (with_reducible refine Kd.C_drew ?_))); (case side2 => exact (Kd.R_reads' HO_6.out).2.1); (case side3 => repeat (first | exact (Kd.R_reads' HO_7.out).2.2 | (with_reducible refine Kd.C_alloc ?_ _) | (with_reducible refine Kd.C_drewN ?_ _) | (with_reducible refine Kd.C_drew ?_))); (case side4 => exact (Kd.R_reads' HO_7.out).2.1); rintro e w' ⟨rfl, ⟨nd, rfl⟩⟩; (try first | exact ⟨rfl, _, World.drewN_drewN _ _ _⟩ | exact ⟨rfl, _, Eq.trans (World.drewN_drewN _ _ _) (congrArg (World.drewN _) (Nat.add_assoc _ _ _))⟩); have q141 : ((ji126) : Int) ≤ ((t467.length : Int) : Int) := of_decide_eq_true (by first | (with_reducible assumption) | assumption); obtain ⟨i0141, hi0141, _, hsz141, _⟩ := info_parts info3; have hroom141 : t467.length ≤ co139 := (Kd.R_reads' HO_6.out).2.1; have hC141 : Kd.C (Kd.int .i64) _ Ao139 t467.length t467 := (Kd.R_reads' HO_6.out).2.2; have hcut141 := cut_to (P := Try.prog) 25 3 .i64 Try.underlying25 hi0141 Ao139 t467.length co139 (ji126) (of_decide_eq_true (by first | (with_reducible assumption) | assumption)) q141 hroom141; have hr141 := Kd.C_take (m := ((ji126) : Int).toNat) hC141 (by omega); have hy141 : y507.length = ((ji126) : Int).toNat := (by rw [Ny507.out, List.length_take]; omega); rw [← Ny507.out] at hr141; rw [← hy141] at hcut141; have HR510 := Aside0.mk hr141; have HC510 := Aside0.mk (show y507.length ≤ co139 from by omega); clear hr141 hC141 hroom141 hi0141 hsz141; have KY141 := Aside0.mk hy141; clear hy141; have KL141 := Aside0.mk (show ((ji126) : Int).toNat ≤ t467.length from by omega); replace q141 := eq_true q141; have q142 : ((ji126) : Int) ≤ ((t470.length : Int) : Int) := of_decide_eq_true (by first | (with_reducible assumption) | assumption); obtain ⟨i0142, hi0142, _, hsz142, _⟩ := info_parts info3; have hroom142 : t470.length ≤ co140 := (Kd.R_reads' HO_7.out).2.1; have hC142 : Kd.C (Kd.int .i64) _ Ao140 t470.length t470 := (Kd.R_reads' HO_7.out).2.2; have hcut142 := cut_to (P := Try.prog) 25 3 .i64 Try.underlying25 hi0142 Ao140 t470.length co140 (ji126) (of_decide_eq_true (by first | (with_reducible assumption) | assumption)) q142 hroom142; have hr142 := Kd.C_take (m := ((ji126) : Int).toNat) hC142 (by omega); have hy142 : y511.length = ((ji126) : Int).toNat := (by rw [Ny511.out, List.length_take]; omega); rw [← Ny511.out] at hr142; rw [← hy142] at hcut142; have HR514 := Aside0.mk hr142; have HC514 := Aside0.mk (show y511.length ≤ co140 from by omega); clear hr142 hC142 hroom142 hi0142 hsz142; have KY142 := Aside0.mk hy142; clear hy142; have KL142 := Aside0.mk (show ((ji126) : Int).toNat ≤ t470.length from by omega); replace q142 := eq_true q142) | (go_at_call 16; (with_reducible refine (phaetonref01_Same.calls kj43 _ _ y507 _ _ y511 t515 _ ?side1 ?side2 ?side3 ?side4 A134.out).mono ?_); (case side1 => repeat (first | exact (by repeat (first | (with_reducible exact HR510.out) | (with_reducible refine Kd.C_alloc ?_ _) | (with_reducible refine Kd.C_drewN ?_ _) | (with_reducible refine Kd.C_drew ?_) | exact HR510.out)) | (with_reducible refine Kd.C_alloc ?_ _) | (with_reducible refine Kd.C_drewN ?_ _) | (with_reducible refine Kd.C_drew ?_))); (case side2 => exact HC510.out); (case side3 => repeat (first | exact (by repeat (first | (with_reducible exact HR514.out) | (with_reducible refine Kd.C_alloc ?_ _) | (with_reducible refine Kd.C_drewN ?_ _) | (with_reducible refine Kd.C_drew ?_) | exact HR514.out)) | (with_reducible refine Kd.C_alloc ?_ _) | (with_reducible refine Kd.C_drewN ?_ _) | (with_reducible refine Kd.C_drew ?_))); (case side4 => exact HC514.out); rintro e w' ⟨rfl, ⟨nd, rfl⟩⟩; (try first | exact ⟨rfl, _, World.drewN_drewN _ _ _⟩ | exact ⟨rfl, _, Eq.trans (World.drewN_drewN _ _ _) (congrArg (World.drewN _) (Nat.add_assoc _ _ _))⟩))))
                            go_ret
                            exact ⟨by first | rfl | (simp [errW_none, errW_some] <;> rfl) | (simp only [← hji126]; first | rfl | (simp [errW_none, errW_some] <;> rfl)) | (simp [*, errW_none, errW_some] <;> rfl), by repeat (first | (with_reducible first | exact HB.out | apply below_alloc | apply pw_below_drewN | apply below_drew1 | refine below_set ?_ GE460.out | refine below_set ?_ GE461.out) | exact HB.out)⟩
                          · rw [if_neg c135] at H
                            exact absurd H (by simp)
                        · rw [if_neg c133] at H
                          exact absurd H (by simp)
                      · rw [if_neg c131] at H
                        exact absurd H (by simp)
                    · rw [if_neg c130] at H
                      exact absurd H (by simp)
                  · rw [if_neg c129] at H
                    exact absurd H (by simp)
                · replace c127 := Bool.eq_false_iff.mpr c127
                  subst c127
                  have H1 : (none) = some r := by rw [if_neg (show ¬ (false = true) by decide)] at H; exact H
                  clear H
                  have H := H1
                  clear H1
                  exact absurd H (by simp)

/-- THE ONE PURE STATEMENT of phaetonlaw04_FrameRank. -/
def phaetonlaw04_FrameRank.Pure : Prop := ∀ (a0_0 : Bool) (a0_1 : Int) (a0_2 : Bool) (a0_3 : Int) (l0_4 : List Int) (a1_0 : Bool) (a1_1 : Int) (a1_2 : Bool) (a1_3 : Int) (l1_4 : List Int), (Lit.int .i64 a0_1).wf = true → (Lit.int .i64 a0_3).wf = true → l0_4.length ≤ maxLen → (∀ x ∈ l0_4, (fun (x : Int) => (Lit.int .u8 x).wf = true) x) → (Lit.int .i64 a1_1).wf = true → (Lit.int .i64 a1_3).wf = true → l1_4.length ≤ maxLen → (∀ x ∈ l1_4, (fun (x : Int) => (Lit.int .u8 x).wf = true) x) → ∃ k, phaetonlaw04_FrameRank.f k a0_0 a0_1 a0_2 a0_3 l0_4 a1_0 a1_1 a1_2 a1_3 l1_4 = some true
theorem phaetonlaw04_FrameRank.walk (P : phaetonlaw04_FrameRank.Pure) (a0_0 : Bool) (a0_1 : Int) (a0_2 : Bool) (a0_3 : Int) (A0_4 : Option Addr) (c0_4 : Nat) (l0_4 : List Int) (a1_0 : Bool) (a1_1 : Int) (a1_2 : Bool) (a1_3 : Int) (A1_4 : Option Addr) (c1_4 : Nat) (l1_4 : List Int) (w : World) (hw0_1 : (Lit.int .i64 a0_1).wf = true) (hw0_3 : (Lit.int .i64 a0_3).wf = true) (hw0_4 : ∀ x ∈ l0_4, (fun (x : Int) => (Lit.int .u8 x).wf = true) x) (hr0_4 : Kd.C (Kd.int .u8) w A0_4 l0_4.length l0_4) (hc0_4 : l0_4.length ≤ c0_4) (hw1_1 : (Lit.int .i64 a1_1).wf = true) (hw1_3 : (Lit.int .i64 a1_3).wf = true) (hw1_4 : ∀ x ∈ l1_4, (fun (x : Int) => (Lit.int .u8 x).wf = true) x) (hr1_4 : Kd.C (Kd.int .u8) w A1_4 l1_4.length l1_4) (hc1_4 : l1_4.length ≤ c1_4) :
    Calls Try.prog 6 #[.agg #[.bool a0_0, .int .i64 a0_1, .bool a0_2, .int .i64 a0_3, .slice A0_4 l0_4.length c0_4], .agg #[.bool a1_0, .int .i64 a1_1, .bool a1_2, .int .i64 a1_3, .slice A1_4 l1_4.length c1_4]] w fun e w' => e = .returned (.bool true) ∧ Below w.heap.size w w' := by
  obtain ⟨k, h⟩ := P a0_0 a0_1 a0_2 a0_3 l0_4 a1_0 a1_1 a1_2 a1_3 l1_4 hw0_1 hw0_3 (by have := hr0_4.2.1; unfold maxLen; omega) hw0_4 hw1_1 hw1_3 (by have := hr1_4.2.1; unfold maxLen; omega) hw1_4
  refine (phaetonlaw04_FrameRank.calls k a0_0 a0_1 a0_2 a0_3 _ _ l0_4 a1_0 a1_1 a1_2 a1_3 _ _ l1_4 true w hr0_4 hc0_4 hr1_4 hc1_4 h).mono ?_
  rintro e w' ⟨rfl, hd⟩
  exact ⟨rfl, hd⟩

end Go.Proofs.Ytiphbgcmbbfpmaa.Px

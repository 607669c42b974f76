-- Written by myprint.py, a program of this session's, over the kit's print.py; not a text of print.sh's own.
import Derived.Test.YtechlakahpkdpaaHandFive
import Derived.Test.YtechlakahpkdpaaHandShare
import Derived.Test.YtechlakahpkdpaaHandBox
import Derived.Test.YtechlakahpkdpaaPx0
import Derived.Test.YtechlakahpkdpaaPx1
import Derived.Test.YtechlakahpkdpaaPx2
import Derived.Test.YtechlakahpkdpaaPx3
import Derived.Test.YtechlakahpkdpaaPx4
import Derived.Test.YtechlakahpkdpaaPx5
namespace Go.Proofs.Ytechlakahpkdpaa.Px
open Go.RowKit Go.Proofs.YtechlakahpkdpaaW.PrintWords Go.Proofs.YtechlakahpkdpaaW.PrintLast Go.Proofs.YtechlakahpkdpaaW.PrintMore
attribute [local go_sem] max2_int min2_int max_two min_two max_three min_three max_four min_four   -- for this text's walks alone
set_option linter.unusedVariables false
set_option linter.unusedSimpArgs false

theorem lit_info : (Try.prog.info? 26).map (fun i => (i.zero.map (fun z => z.cells.size), i.size)) = some (some 5, 5) := by kernel_rfl
theorem lit_under : Try.prog.underlying 22 = some (.slice 26) := by kernel_rfl
theorem lit_fill (zs : Array Value) (hz : zs.size = 10) (a0 a1 a2 a3 a4 b0 b1 b2 b3 b4 : Value) : Instr.fill (fun i => some (i * 5, 5)) zs
  [(0, .agg #[a0, a1, a2, a3, a4]), (1, .agg #[b0, b1, b2, b3, b4])] = some #[a0, a1, a2, a3, a4, b0, b1, b2, b3, b4] := by
  rcases zs with ⟨l⟩
  match l, hz with
  | [x0, x1, x2, x3, x4, x5, x6, x7, x8, x9], _ => simp [Instr.fill, Value.cells]
theorem lit_two (w : World) (a0 a1 a2 a3 a4 b0 b1 b2 b3 b4 : Value) :
   (Instr.buildSlice 22 2 #[(0, .agg #[a0, a1, a2, a3, a4]), (1, .agg #[b0, b1, b2, b3, b4])]).run Try.prog w
   = .ok (.slice (some ⟨w.heap.size, 0, none⟩) 2 2) (w.alloc (.cells #[a0, a1, a2, a3, a4, b0, b1, b2, b3, b4] 26)) := by
  have hi := lit_info
  cases hie : Try.prog.info? 26 with
  | none => rw [hie] at hi; cases hi
  | some ie =>
    rw [hie] at hi
    simp only [Option.map_some, Option.some.injEq, Prod.mk.injEq] at hi
    obtain ⟨hz, hs⟩ := hi
    cases hzz : ie.zero with
    | none => rw [hzz] at hz; cases hz
    | some z =>
      simp [Instr.buildSlice, run_underlying lit_under, sizeOf, typeInfo, zeroValue, hie, hzz, hs, newRow]
      rw [lit_fill _ (by simp)]
      simp
theorem lit_run {a : Act} {o : Oper} {x y : Operand} {a0 a1 a2 a3 a4 b0 b1 b2 b3 b4 : Value} (w : World) (ho : o.op = .buildSlice 22 2 #[(0, x), (1, y)]) (hx : a.eval x = .agg #[a0, a1, a2, a3, a4]) (hy : a.eval y = .agg #[b0, b1, b2, b3, b4]) :
    (execOp a.eval o).run Try.prog w = .ok (.value (.slice (some ⟨w.heap.size, 0, none⟩) 2 2)) (w.alloc (.cells #[a0, a1, a2, a3, a4, b0, b1, b2, b3, b4] 26)) := by
  unfold execOp
  simp only [ho, List.map_toArray, List.map_cons, List.map_nil, hx, hy]
  simp [lit_two]
/-! ### phaetontop_TopLine: function 4 -/
mutual
def phaetontop_TopLine.j0 : Nat → Bool → Bool → Bool → Int → Bool → Int → List Int → Bool → Int → Bool → Int → List Int → Option (Bool)
 | 0, _, _, _, _, _, _, _, _, _, _, _, _ => none
 | k + 1, x5, x43, x210000, x210001, x210002, x210003, x210004, x211000, x211001, x211002, x211003, x211004 => if x43 = true then (if x5 = true then (some true) else (none)) else ((some (([(⟨x210000, x210001, x210002, x210003, x210004⟩ : S26), (⟨x211000, x211001, x211002, x211003, x211004⟩ : S26)] : List (S26)) : List (S26))).bind fun y221 => ((arb_Win.f y221).bind fun t224 => ((arb_Lost.f y221).bind fun t225 => (if t224 = 0 then (if (t225.length : Int) = 2 then (if 0 ≤ t224 then (if t224 < (t225.length : Int) then (phaetontop_TopLine.j1 k x5 y221 t224 t225 ((rd t225 t224) != (-1))) else (none)) else (none)) else (phaetontop_TopLine.j1 k x5 y221 t224 t225 true)) else (if t224 = 1 then (if (t225.length : Int) = 2 then (if 0 ≤ t224 then (if t224 < (t225.length : Int) then (phaetontop_TopLine.j1 k x5 y221 t224 t225 ((rd t225 t224) != (-1))) else (none)) else (none)) else (phaetontop_TopLine.j1 k x5 y221 t224 t225 true)) else (phaetontop_TopLine.j1 k x5 y221 t224 t225 true))))))
def phaetontop_TopLine.j1 : Nat → Bool → List (S26) → Int → List Int → Bool → Option (Bool)
 | 0, _, _, _, _, _ => none
 | k + 1, x5, x6, x7, x8, x69 => if x69 = true then (none) else (if 0 ≤ x7 then (if x7 < (x6.length : Int) then ((wire_Bits.f ((rd_T26 x6 x7).f0) ((rd_T26 x6 x7).f1) ((rd_T26 x6 x7).f2) ((rd_T26 x6 x7).f3) ((rd_T26 x6 x7).f4)).bind fun t231 => (if 0 ≤ (wrap64 (1 - x7)) then (if (wrap64 (1 - x7)) < (x6.length : Int) then ((wire_Bits.f ((rd_T26 x6 (wrap64 (1 - x7))).f0) ((rd_T26 x6 (wrap64 (1 - x7))).f1) ((rd_T26 x6 (wrap64 (1 - x7))).f2) ((rd_T26 x6 (wrap64 (1 - x7))).f3) ((rd_T26 x6 (wrap64 (1 - x7))).f4)).bind fun t235 => (phaetontop_TopLine.l0 k x5 x6 x7 x8 t231 t235 0)) else (none)) else (none))) else (none)) else (none))
def phaetontop_TopLine.j3 : Nat → Bool → List (S26) → Int → List Int → List Int → List Int → Int → Option (Bool)
 | 0, _, _, _, _, _, _, _ => none
 | k + 1, x5, x6, x7, x8, x9, x10, x11 => if x11 ≥ (x9.length : Int) then (phaetontop_TopLine.j4 k x5 x6 x7 x8 x9 x10 x11 true) else (if x11 ≥ (x10.length : Int) then (phaetontop_TopLine.j4 k x5 x6 x7 x8 x9 x10 x11 true) else (if 0 ≤ x11 then (if x11 < (x9.length : Int) then (phaetontop_TopLine.j4 k x5 x6 x7 x8 x9 x10 x11 ((rd x9 x11) != 0)) else (none)) else (none)))
def phaetontop_TopLine.j4 : Nat → Bool → List (S26) → Int → List Int → List Int → List Int → Int → Bool → Option (Bool)
 | 0, _, _, _, _, _, _, _, _ => none
 | k + 1, x5, x6, x7, x8, x9, x10, x11, x120 => if x120 = true then (none) else (phaetontop_TopLine.l1 k x5 x6 x7 x8 x9 x10 x11 0)
def phaetontop_TopLine.l1 : Nat → Bool → List (S26) → Int → List Int → List Int → List Int → Int → Int → Option (Bool)
 | 0, _, _, _, _, _, _, _, _ => none
 | k + 1, x5, x6, x7, x8, x9, x10, x11, x12 => if x12 ≤ x11 then (if 0 ≤ x12 then (if x12 < (x9.length : Int) then (if x12 < (x10.length : Int) then ((arb_And.f k (([rd x9 x12, rd x10 x12] : List Int))).bind fun t246 => (if t246 = (rd x9 x12) then (phaetontop_TopLine.l1 k x5 x6 x7 x8 x9 x10 x11 (wrap64 (x12 + 1))) else (none))) else (none)) else (none)) else (none)) else ((arb_Line.f x6).bind fun t248 => (if 0 ≤ (wrap64 (1 - x7)) then (if (wrap64 (1 - x7)) < (x8.length : Int) then (if (wrap64 (1 - x7)) < (x6.length : Int) then ((frame_Rank.f ((rd_T26 x6 (wrap64 (1 - x7))).f0) ((rd_T26 x6 (wrap64 (1 - x7))).f1) ((rd_T26 x6 (wrap64 (1 - x7))).f2) ((rd_T26 x6 (wrap64 (1 - x7))).f3) ((rd_T26 x6 (wrap64 (1 - x7))).f4)).bind fun t253 => (if x5 = true then (if 0 ≤ x7 then (if x7 < (x6.length : Int) then ((frame_Rank.f ((rd_T26 x6 x7).f0) ((rd_T26 x6 x7).f1) ((rd_T26 x6 x7).f2) ((rd_T26 x6 x7).f3) ((rd_T26 x6 x7).f4)).bind fun t257 => ((phaetonref01_Same.f k t248 t257).bind fun t260 => (if t260 = true then (if (rd x8 (wrap64 (1 - x7))) ≥ 0 then (if (rd x8 (wrap64 (1 - x7))) < (t253.length : Int) then (if (rd x8 (wrap64 (1 - x7))) < (t248.length : Int) then (if 0 ≤ (rd x8 (wrap64 (1 - x7))) then (if (rd t253 (rd x8 (wrap64 (1 - x7)))) = 1 then (if (rd t248 (rd x8 (wrap64 (1 - x7)))) = 0 then (if (wrap64 ((rd x8 (wrap64 (1 - x7))) + 1)) ≤ x11 then (some true) else (none)) else (none)) else (none)) else (none)) else (none)) else (none)) else (none)) else (none)))) else (none)) else (none)) else (none))) else (none)) else (none)) else (none)))
def phaetontop_TopLine.l0 : Nat → Bool → List (S26) → Int → List Int → List Int → List Int → Int → Option (Bool)
 | 0, _, _, _, _, _, _, _ => none
 | k + 1, x5, x6, x7, x8, x9, x10, x11 => if x11 < (x9.length : Int) then (if x11 < (x10.length : Int) then (if 0 ≤ x11 then (if (rd x9 x11) = (rd x10 x11) then (phaetontop_TopLine.l0 k x5 x6 x7 x8 x9 x10 (wrap64 (x11 + 1))) else (phaetontop_TopLine.j3 k x5 x6 x7 x8 x9 x10 x11)) else (none)) else (phaetontop_TopLine.j3 k x5 x6 x7 x8 x9 x10 x11)) else (phaetontop_TopLine.j3 k x5 x6 x7 x8 x9 x10 x11)
end
def phaetontop_TopLine.f (k : Nat) (a0_0 : Bool) (a0_1 : Int) (a0_2 : Bool) (a0_3 : Int) (l0_4 : List Int) (a1_0 : Bool) (a1_1 : Int) (a1_2 : Bool) (a1_3 : Int) (l1_4 : List Int) : Option (Bool) := (phaetontop_head06.f k).bind fun t211 => (if (l0_4.length : Int) > 8 then (phaetontop_TopLine.j0 k t211 true a0_0 a0_1 a0_2 a0_3 l0_4 a1_0 a1_1 a1_2 a1_3 l1_4) else (if (l1_4.length : Int) > 8 then (phaetontop_TopLine.j0 k t211 true a0_0 a0_1 a0_2 a0_3 l0_4 a1_0 a1_1 a1_2 a1_3 l1_4) else ((phaetonref04_Right.f k a0_0 a0_1 a0_2 a0_3 l0_4).bind fun t212 => (if t212 = true then ((phaetonref04_Right.f k a1_0 a1_1 a1_2 a1_3 l1_4).bind fun t213 => (if t213 = true then ((phaetonref04_Rank.f k a0_0 a0_1 a0_2 a0_3 l0_4).bind fun t214 => ((phaetonref04_Rank.f k a1_0 a1_1 a1_2 a1_3 l1_4).bind fun t217 => ((phaetonref01_Same.f k t214 t217).bind fun t220 => (phaetontop_TopLine.j0 k t211 t220 a0_0 a0_1 a0_2 a0_3 l0_4 a1_0 a1_1 a1_2 a1_3 l1_4)))) else (phaetontop_TopLine.j0 k t211 true a0_0 a0_1 a0_2 a0_3 l0_4 a1_0 a1_1 a1_2 a1_3 l1_4))) else (phaetontop_TopLine.j0 k t211 true a0_0 a0_1 a0_2 a0_3 l0_4 a1_0 a1_1 a1_2 a1_3 l1_4)))))
theorem phaetontop_TopLine.mono_l : ∀ k, (∀ y0 y1 y2 y3 y4 y5 y6 y7 y8 y9 y10 y11, LeO (phaetontop_TopLine.j0 k y0 y1 y2 y3 y4 y5 y6 y7 y8 y9 y10 y11) (phaetontop_TopLine.j0 (k + 1) y0 y1 y2 y3 y4 y5 y6 y7 y8 y9 y10 y11)) ∧ (∀ y0 y1 y2 y3 y4, LeO (phaetontop_TopLine.j1 k y0 y1 y2 y3 y4) (phaetontop_TopLine.j1 (k + 1) y0 y1 y2 y3 y4)) ∧ (∀ y0 y1 y2 y3 y4 y5 y6, LeO (phaetontop_TopLine.j3 k y0 y1 y2 y3 y4 y5 y6) (phaetontop_TopLine.j3 (k + 1) y0 y1 y2 y3 y4 y5 y6)) ∧ (∀ y0 y1 y2 y3 y4 y5 y6 y7, LeO (phaetontop_TopLine.j4 k y0 y1 y2 y3 y4 y5 y6 y7) (phaetontop_TopLine.j4 (k + 1) y0 y1 y2 y3 y4 y5 y6 y7)) ∧ (∀ y0 y1 y2 y3 y4 y5 y6 y7, LeO (phaetontop_TopLine.l1 k y0 y1 y2 y3 y4 y5 y6 y7) (phaetontop_TopLine.l1 (k + 1) y0 y1 y2 y3 y4 y5 y6 y7)) ∧ (∀ y0 y1 y2 y3 y4 y5 y6, LeO (phaetontop_TopLine.l0 k y0 y1 y2 y3 y4 y5 y6) (phaetontop_TopLine.l0 (k + 1) y0 y1 y2 y3 y4 y5 y6))
 | 0 => ⟨fun _ _ _ _ _ _ _ _ _ _ _ _ r h => by simp [phaetontop_TopLine.j0] at h, fun _ _ _ _ _ r h => by simp [phaetontop_TopLine.j1] at h, fun _ _ _ _ _ _ _ r h => by simp [phaetontop_TopLine.j3] at h, fun _ _ _ _ _ _ _ _ r h => by simp [phaetontop_TopLine.j4] at h, fun _ _ _ _ _ _ _ _ r h => by simp [phaetontop_TopLine.l1] at h, fun _ _ _ _ _ _ _ r h => by simp [phaetontop_TopLine.l0] at h⟩
 | k + 1 => by
  obtain ⟨ih0, ih1, ih2, ih3, ih4, ih5⟩ := phaetontop_TopLine.mono_l k
  refine ⟨?_, ?_, ?_, ?_, ?_, ?_⟩
  ·intro y0 y1 y2 y3 y4 y5 y6 y7 y8 y9 y10 y11
   unfold phaetontop_TopLine.j0
   repeat' first
   | (with_reducible exact ih0 _ _ _ _ _ _ _ _ _ _ _ _)
   | (with_reducible exact ih1 _ _ _ _ _)
   | (with_reducible exact ih2 _ _ _ _ _ _ _)
   | (with_reducible exact ih3 _ _ _ _ _ _ _ _)
   | (with_reducible exact ih4 _ _ _ _ _ _ _ _)
   | (with_reducible exact ih5 _ _ _ _ _ _ _)
   | (with_reducible exact arb_And.mono _ _)
   | (with_reducible exact phaetonref01_Same.mono _ _ _)
   | (with_reducible exact phaetonref04_Rank.mono _ _ _ _ _ _)
   | (with_reducible exact phaetonref04_Right.mono _ _ _ _ _ _)
   | (with_reducible exact phaetontop_head06.mono _)
   | (with_reducible exact LeO.refl _)
   | (with_reducible exact LeO.none _)
   | (with_reducible refine LeO.ite ?_ ?_)
   | (with_reducible refine LeO.bind ?_ (fun _ => ?_))
   | exact ih0 _ _ _ _ _ _ _ _ _ _ _ _
   | exact ih1 _ _ _ _ _
   | exact ih2 _ _ _ _ _ _ _
   | exact ih3 _ _ _ _ _ _ _ _
   | exact ih4 _ _ _ _ _ _ _ _
   | exact ih5 _ _ _ _ _ _ _
   | exact arb_And.mono _ _
   | exact phaetonref01_Same.mono _ _ _
   | exact phaetonref04_Rank.mono _ _ _ _ _ _
   | exact phaetonref04_Right.mono _ _ _ _ _ _
   | exact phaetontop_head06.mono _
   | exact LeO.none _
   | refine LeO.ite ?_ ?_
   | refine LeO.bind ?_ (fun _ => ?_)
  ·intro y0 y1 y2 y3 y4
   unfold phaetontop_TopLine.j1
   repeat' first
   | (with_reducible exact ih0 _ _ _ _ _ _ _ _ _ _ _ _)
   | (with_reducible exact ih1 _ _ _ _ _)
   | (with_reducible exact ih2 _ _ _ _ _ _ _)
   | (with_reducible exact ih3 _ _ _ _ _ _ _ _)
   | (with_reducible exact ih4 _ _ _ _ _ _ _ _)
   | (with_reducible exact ih5 _ _ _ _ _ _ _)
   | (with_reducible exact arb_And.mono _ _)
   | (with_reducible exact phaetonref01_Same.mono _ _ _)
   | (with_reducible exact phaetonref04_Rank.mono _ _ _ _ _ _)
   | (with_reducible exact phaetonref04_Right.mono _ _ _ _ _ _)
   | (with_reducible exact phaetontop_head06.mono _)
   | (with_reducible exact LeO.refl _)
   | (with_reducible exact LeO.none _)
   | (with_reducible refine LeO.ite ?_ ?_)
   | (with_reducible refine LeO.bind ?_ (fun _ => ?_))
   | exact ih0 _ _ _ _ _ _ _ _ _ _ _ _
   | exact ih1 _ _ _ _ _
   | exact ih2 _ _ _ _ _ _ _
   | exact ih3 _ _ _ _ _ _ _ _
   | exact ih4 _ _ _ _ _ _ _ _
   | exact ih5 _ _ _ _ _ _ _
   | exact arb_And.mono _ _
   | exact phaetonref01_Same.mono _ _ _
   | exact phaetonref04_Rank.mono _ _ _ _ _ _
   | exact phaetonref04_Right.mono _ _ _ _ _ _
   | exact phaetontop_head06.mono _
   | exact LeO.none _
   | refine LeO.ite ?_ ?_
   | refine LeO.bind ?_ (fun _ => ?_)
  ·intro y0 y1 y2 y3 y4 y5 y6
   unfold phaetontop_TopLine.j3
   repeat' first
   | (with_reducible exact ih0 _ _ _ _ _ _ _ _ _ _ _ _)
   | (with_reducible exact ih1 _ _ _ _ _)
   | (with_reducible exact ih2 _ _ _ _ _ _ _)
   | (with_reducible exact ih3 _ _ _ _ _ _ _ _)
   | (with_reducible exact ih4 _ _ _ _ _ _ _ _)
   | (with_reducible exact ih5 _ _ _ _ _ _ _)
   | (with_reducible exact arb_And.mono _ _)
   | (with_reducible exact phaetonref01_Same.mono _ _ _)
   | (with_reducible exact phaetonref04_Rank.mono _ _ _ _ _ _)
   | (with_reducible exact phaetonref04_Right.mono _ _ _ _ _ _)
   | (with_reducible exact phaetontop_head06.mono _)
   | (with_reducible exact LeO.refl _)
   | (with_reducible exact LeO.none _)
   | (with_reducible refine LeO.ite ?_ ?_)
   | (with_reducible refine LeO.bind ?_ (fun _ => ?_))
   | exact ih0 _ _ _ _ _ _ _ _ _ _ _ _
   | exact ih1 _ _ _ _ _
   | exact ih2 _ _ _ _ _ _ _
   | exact ih3 _ _ _ _ _ _ _ _
   | exact ih4 _ _ _ _ _ _ _ _
   | exact ih5 _ _ _ _ _ _ _
   | exact arb_And.mono _ _
   | exact phaetonref01_Same.mono _ _ _
   | exact phaetonref04_Rank.mono _ _ _ _ _ _
   | exact phaetonref04_Right.mono _ _ _ _ _ _
   | exact phaetontop_head06.mono _
   | exact LeO.none _
   | refine LeO.ite ?_ ?_
   | refine LeO.bind ?_ (fun _ => ?_)
  ·intro y0 y1 y2 y3 y4 y5 y6 y7
   unfold phaetontop_TopLine.j4
   repeat' first
   | (with_reducible exact ih0 _ _ _ _ _ _ _ _ _ _ _ _)
   | (with_reducible exact ih1 _ _ _ _ _)
   | (with_reducible exact ih2 _ _ _ _ _ _ _)
   | (with_reducible exact ih3 _ _ _ _ _ _ _ _)
   | (with_reducible exact ih4 _ _ _ _ _ _ _ _)
   | (with_reducible exact ih5 _ _ _ _ _ _ _)
   | (with_reducible exact arb_And.mono _ _)
   | (with_reducible exact phaetonref01_Same.mono _ _ _)
   | (with_reducible exact phaetonref04_Rank.mono _ _ _ _ _ _)
   | (with_reducible exact phaetonref04_Right.mono _ _ _ _ _ _)
   | (with_reducible exact phaetontop_head06.mono _)
   | (with_reducible exact LeO.refl _)
   | (with_reducible exact LeO.none _)
   | (with_reducible refine LeO.ite ?_ ?_)
   | (with_reducible refine LeO.bind ?_ (fun _ => ?_))
   | exact ih0 _ _ _ _ _ _ _ _ _ _ _ _
   | exact ih1 _ _ _ _ _
   | exact ih2 _ _ _ _ _ _ _
   | exact ih3 _ _ _ _ _ _ _ _
   | exact ih4 _ _ _ _ _ _ _ _
   | exact ih5 _ _ _ _ _ _ _
   | exact arb_And.mono _ _
   | exact phaetonref01_Same.mono _ _ _
   | exact phaetonref04_Rank.mono _ _ _ _ _ _
   | exact phaetonref04_Right.mono _ _ _ _ _ _
   | exact phaetontop_head06.mono _
   | exact LeO.none _
   | refine LeO.ite ?_ ?_
   | refine LeO.bind ?_ (fun _ => ?_)
  ·intro y0 y1 y2 y3 y4 y5 y6 y7
   unfold phaetontop_TopLine.l1
   repeat' first
   | (with_reducible exact ih0 _ _ _ _ _ _ _ _ _ _ _ _)
   | (with_reducible exact ih1 _ _ _ _ _)
   | (with_reducible exact ih2 _ _ _ _ _ _ _)
   | (with_reducible exact ih3 _ _ _ _ _ _ _ _)
   | (with_reducible exact ih4 _ _ _ _ _ _ _ _)
   | (with_reducible exact ih5 _ _ _ _ _ _ _)
   | (with_reducible exact arb_And.mono _ _)
   | (with_reducible exact phaetonref01_Same.mono _ _ _)
   | (with_reducible exact phaetonref04_Rank.mono _ _ _ _ _ _)
   | (with_reducible exact phaetonref04_Right.mono _ _ _ _ _ _)
   | (with_reducible exact phaetontop_head06.mono _)
   | (with_reducible exact LeO.refl _)
   | (with_reducible exact LeO.none _)
   | (with_reducible refine LeO.ite ?_ ?_)
   | (with_reducible refine LeO.bind ?_ (fun _ => ?_))
   | exact ih0 _ _ _ _ _ _ _ _ _ _ _ _
   | exact ih1 _ _ _ _ _
   | exact ih2 _ _ _ _ _ _ _
   | exact ih3 _ _ _ _ _ _ _ _
   | exact ih4 _ _ _ _ _ _ _ _
   | exact ih5 _ _ _ _ _ _ _
   | exact arb_And.mono _ _
   | exact phaetonref01_Same.mono _ _ _
   | exact phaetonref04_Rank.mono _ _ _ _ _ _
   | exact phaetonref04_Right.mono _ _ _ _ _ _
   | exact phaetontop_head06.mono _
   | exact LeO.none _
   | refine LeO.ite ?_ ?_
   | refine LeO.bind ?_ (fun _ => ?_)
  ·intro y0 y1 y2 y3 y4 y5 y6
   unfold phaetontop_TopLine.l0
   repeat' first
   | (with_reducible exact ih0 _ _ _ _ _ _ _ _ _ _ _ _)
   | (with_reducible exact ih1 _ _ _ _ _)
   | (with_reducible exact ih2 _ _ _ _ _ _ _)
   | (with_reducible exact ih3 _ _ _ _ _ _ _ _)
   | (with_reducible exact ih4 _ _ _ _ _ _ _ _)
   | (with_reducible exact ih5 _ _ _ _ _ _ _)
   | (with_reducible exact arb_And.mono _ _)
   | (with_reducible exact phaetonref01_Same.mono _ _ _)
   | (with_reducible exact phaetonref04_Rank.mono _ _ _ _ _ _)
   | (with_reducible exact phaetonref04_Right.mono _ _ _ _ _ _)
   | (with_reducible exact phaetontop_head06.mono _)
   | (with_reducible exact LeO.refl _)
   | (with_reducible exact LeO.none _)
   | (with_reducible refine LeO.ite ?_ ?_)
   | (with_reducible refine LeO.bind ?_ (fun _ => ?_))
   | exact ih0 _ _ _ _ _ _ _ _ _ _ _ _
   | exact ih1 _ _ _ _ _
   | exact ih2 _ _ _ _ _ _ _
   | exact ih3 _ _ _ _ _ _ _ _
   | exact ih4 _ _ _ _ _ _ _ _
   | exact ih5 _ _ _ _ _ _ _
   | exact arb_And.mono _ _
   | exact phaetonref01_Same.mono _ _ _
   | exact phaetonref04_Rank.mono _ _ _ _ _ _
   | exact phaetonref04_Right.mono _ _ _ _ _ _
   | exact phaetontop_head06.mono _
   | exact LeO.none _
   | refine LeO.ite ?_ ?_
   | refine LeO.bind ?_ (fun _ => ?_)
theorem phaetontop_TopLine.mono : ∀ a0 a1 a2 a3 a4 a5 a6 a7 a8 a9 k, LeO (phaetontop_TopLine.f k a0 a1 a2 a3 a4 a5 a6 a7 a8 a9) (phaetontop_TopLine.f (k + 1) a0 a1 a2 a3 a4 a5 a6 a7 a8 a9) := by
 intro a0 a1 a2 a3 a4 a5 a6 a7 a8 a9 k
 obtain ⟨ih0, ih1, ih2, ih3, ih4, ih5⟩ := phaetontop_TopLine.mono_l k
 unfold phaetontop_TopLine.f
 repeat' first
   | (with_reducible exact ih0 _ _ _ _ _ _ _ _ _ _ _ _)
   | (with_reducible exact ih1 _ _ _ _ _)
   | (with_reducible exact ih2 _ _ _ _ _ _ _)
   | (with_reducible exact ih3 _ _ _ _ _ _ _ _)
   | (with_reducible exact ih4 _ _ _ _ _ _ _ _)
   | (with_reducible exact ih5 _ _ _ _ _ _ _)
   | (with_reducible exact arb_And.mono _ _)
   | (with_reducible exact phaetonref01_Same.mono _ _ _)
   | (with_reducible exact phaetonref04_Rank.mono _ _ _ _ _ _)
   | (with_reducible exact phaetonref04_Right.mono _ _ _ _ _ _)
   | (with_reducible exact phaetontop_head06.mono _)
   | (with_reducible exact LeO.refl _)
   | (with_reducible exact LeO.none _)
   | (with_reducible refine LeO.ite ?_ ?_)
   | (with_reducible refine LeO.bind ?_ (fun _ => ?_))
   | exact ih0 _ _ _ _ _ _ _ _ _ _ _ _
   | exact ih1 _ _ _ _ _
   | exact ih2 _ _ _ _ _ _ _
   | exact ih3 _ _ _ _ _ _ _ _
   | exact ih4 _ _ _ _ _ _ _ _
   | exact ih5 _ _ _ _ _ _ _
   | exact arb_And.mono _ _
   | exact phaetonref01_Same.mono _ _ _
   | exact phaetonref04_Rank.mono _ _ _ _ _ _
   | exact phaetonref04_Right.mono _ _ _ _ _ _
   | exact phaetontop_head06.mono _
   | exact LeO.none _
   | refine LeO.ite ?_ ?_
   | refine LeO.bind ?_ (fun _ => ?_)
end Go.Proofs.Ytechlakahpkdpaa.Px

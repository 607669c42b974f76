-- Written by myprint.py, a program of this session's, over the kit's print.py; not a text of print.sh's own.
import Derived.Test.YtechlakahpkdpaaHandFive
import Derived.Test.YtechlakahpkdpaaPx0
import Derived.Test.YtechlakahpkdpaaPx1
import Derived.Test.YtechlakahpkdpaaPx2
import Derived.Test.YtechlakahpkdpaaPx3
import Derived.Test.YtechlakahpkdpaaPx4
namespace Go.Proofs.Ytechlakahpkdpaa.Px
open Go.RowKit Go.Proofs.YtechlakahpkdpaaW.PrintWords Go.Proofs.YtechlakahpkdpaaW.PrintLast Go.Proofs.YtechlakahpkdpaaW.PrintMore
attribute [local go_sem] max2_int min2_int max_two min_two max_three min_three max_four min_four   -- for this text's walks alone
set_option linter.unusedVariables false
set_option linter.unusedSimpArgs false

/-! ### phaetontop_TopMany: function 3 -/
mutual
def phaetontop_TopMany.j0 : Nat → List (S26) → Int → Bool → Bool → Option (Bool)
  | 0, _, _, _, _ => none
  | k + 1, x0, x1, x5, x20 => if x20 = true then (if x5 = true then (some true) else (none)) else (phaetontop_TopMany.l0 k x0 x1 x5 0)
def phaetontop_TopMany.l0 : Nat → List (S26) → Int → Bool → Int → Option (Bool)
  | 0, _, _, _, _ => none
  | k + 1, x0, x1, x5, x6 => if x6 < (x0.length : Int) then (if 0 ≤ x6 then (if (((rd_T26 x0 x6).f4).length : Int) > 8 then (if x5 = true then (some true) else (none)) else ((phaetonref04_Right.f k ((rd_T26 x0 x6).f0) ((rd_T26 x0 x6).f1) ((rd_T26 x0 x6).f2) ((rd_T26 x0 x6).f3) ((rd_T26 x0 x6).f4)).bind fun t171 => (if t171 = true then (phaetontop_TopMany.l0 k x0 x1 x5 (wrap64 (x6 + 1))) else (if x5 = true then (some true) else (none))))) else (none)) else ((arb_Win.f x0).bind fun t172 => (if (x0.length : Int) = 0 then (none) else ((some (([] : List (S26)) : List (S26))).bind fun y173 => (if 0 ≤ (Int.tmod (wrap64 (x1)) (x0.length : Int)) then (if (Int.tmod (wrap64 (x1)) (x0.length : Int)) ≤ (x0.length : Int) then ((some (x0.drop ((Int.tmod (wrap64 (x1)) (x0.length : Int)) : Int).toNat : List (S26))).bind fun y176 => (if y173.length + y176.length < 2513169434916 then ((some (y173 ++ y176 : List (S26))).bind fun y181 => ((some (x0.take ((Int.tmod (wrap64 (x1)) (x0.length : Int)) : Int).toNat : List (S26))).bind fun y184 => (if y181.length + y184.length < 2513169434916 then ((some (y181 ++ y184 : List (S26))).bind fun y189 => ((arb_Win.f y189).bind fun t192 => (if t172 < 0 then (phaetontop_TopMany.j2 k x0 x5 t172 true) else (if t172 ≥ (x0.length : Int) then (phaetontop_TopMany.j2 k x0 x5 t172 true) else (if t192 < 0 then (phaetontop_TopMany.j2 k x0 x5 t172 true) else (if t192 ≥ (x0.length : Int) then (phaetontop_TopMany.j2 k x0 x5 t172 true) else (if 0 ≤ t172 then (if t172 < (x0.length : Int) then ((frame_Rank.f ((rd_T26 x0 t172).f0) ((rd_T26 x0 t172).f1) ((rd_T26 x0 t172).f2) ((rd_T26 x0 t172).f3) ((rd_T26 x0 t172).f4)).bind fun t194 => (if 0 ≤ t192 then (if t192 < (y189.length : Int) then ((frame_Rank.f ((rd_T26 y189 t192).f0) ((rd_T26 y189 t192).f1) ((rd_T26 y189 t192).f2) ((rd_T26 y189 t192).f3) ((rd_T26 y189 t192).f4)).bind fun t198 => ((phaetonref01_Same.f k t194 t198).bind fun t201 => (phaetontop_TopMany.j2 k x0 x5 t172 (!t201)))) else (none)) else (none))) else (none)) else (none)))))))) else (none)))) else (none))) else (none)) else (none)))))
def phaetontop_TopMany.j2 : Nat → List (S26) → Bool → Int → Bool → Option (Bool)
  | 0, _, _, _, _ => none
  | k + 1, x0, x5, x7, x93 => if x93 = true then (none) else (phaetontop_TopMany.l1 k x0 x5 x7 0)
def phaetontop_TopMany.l1 : Nat → List (S26) → Bool → Int → Int → Option (Bool)
  | 0, _, _, _, _ => none
  | k + 1, x0, x5, x7, x11 => if x11 < (x0.length : Int) then (if 0 ≤ x7 then (if x7 < (x0.length : Int) then (if 0 ≤ x11 then ((arb_Win.f (([(⟨(rd_T26 x0 x7).f0, (rd_T26 x0 x7).f1, (rd_T26 x0 x7).f2, (rd_T26 x0 x7).f3, (rd_T26 x0 x7).f4⟩ : S26), (⟨(rd_T26 x0 x11).f0, (rd_T26 x0 x11).f1, (rd_T26 x0 x11).f2, (rd_T26 x0 x11).f3, (rd_T26 x0 x11).f4⟩ : S26)] : List (S26)))).bind fun t207 => (if t207 = 0 then (phaetontop_TopMany.l1 k x0 x5 x7 (wrap64 (x11 + 1))) else (none))) else (none)) else (none)) else (none)) else (if x5 = true then (some true) else (none))
end
def phaetontop_TopMany.f (k : Nat) (l0 : List (S26)) (a1 : Int) : Option (Bool) := (phaetontop_head06.f k).bind fun t168 => (if (l0.length : Int) = 0 then (phaetontop_TopMany.j0 k l0 a1 t168 true) else (phaetontop_TopMany.j0 k l0 a1 t168 (decide ((l0.length : Int) > 12))))
theorem phaetontop_TopMany.mono_l : ∀ k, (∀ y0 y1 y2 y3, LeO (phaetontop_TopMany.j0 k y0 y1 y2 y3) (phaetontop_TopMany.j0 (k + 1) y0 y1 y2 y3)) ∧ (∀ y0 y1 y2 y3, LeO (phaetontop_TopMany.l0 k y0 y1 y2 y3) (phaetontop_TopMany.l0 (k + 1) y0 y1 y2 y3)) ∧ (∀ y0 y1 y2 y3, LeO (phaetontop_TopMany.j2 k y0 y1 y2 y3) (phaetontop_TopMany.j2 (k + 1) y0 y1 y2 y3)) ∧ (∀ y0 y1 y2 y3, LeO (phaetontop_TopMany.l1 k y0 y1 y2 y3) (phaetontop_TopMany.l1 (k + 1) y0 y1 y2 y3))
  | 0 => ⟨fun _ _ _ _ r h => by simp [phaetontop_TopMany.j0] at h, fun _ _ _ _ r h => by simp [phaetontop_TopMany.l0] at h, fun _ _ _ _ r h => by simp [phaetontop_TopMany.j2] at h, fun _ _ _ _ r h => by simp [phaetontop_TopMany.l1] at h⟩
  | k + 1 => by
    obtain ⟨ih0, ih1, ih2, ih3⟩ := phaetontop_TopMany.mono_l k
    refine ⟨?_, ?_, ?_, ?_⟩
    · intro y0 y1 y2 y3
      unfold phaetontop_TopMany.j0
      repeat' first
      | (with_reducible exact ih0 _ _ _ _)
      | (with_reducible exact ih1 _ _ _ _)
      | (with_reducible exact ih2 _ _ _ _)
      | (with_reducible exact ih3 _ _ _ _)
      | (with_reducible exact phaetonref01_Same.mono _ _ _)
      | (with_reducible exact phaetonref04_Right.mono _ _ _ _ _ _)
      | (with_reducible exact phaetontop_head06.mono _)
      | (with_reducible exact LeO.refl _)
      | (with_reducible exact LeO.none _)
      | (with_reducible refine LeO.ite ?_ ?_)
      | (with_reducible refine LeO.bind ?_ (fun _ => ?_))
      | exact ih0 _ _ _ _
      | exact ih1 _ _ _ _
      | exact ih2 _ _ _ _
      | exact ih3 _ _ _ _
      | exact phaetonref01_Same.mono _ _ _
      | exact phaetonref04_Right.mono _ _ _ _ _ _
      | exact phaetontop_head06.mono _
      | exact LeO.none _
      | refine LeO.ite ?_ ?_
      | refine LeO.bind ?_ (fun _ => ?_)
    · intro y0 y1 y2 y3
      unfold phaetontop_TopMany.l0
      repeat' first
      | (with_reducible exact ih0 _ _ _ _)
      | (with_reducible exact ih1 _ _ _ _)
      | (with_reducible exact ih2 _ _ _ _)
      | (with_reducible exact ih3 _ _ _ _)
      | (with_reducible exact phaetonref01_Same.mono _ _ _)
      | (with_reducible exact phaetonref04_Right.mono _ _ _ _ _ _)
      | (with_reducible exact phaetontop_head06.mono _)
      | (with_reducible exact LeO.refl _)
      | (with_reducible exact LeO.none _)
      | (with_reducible refine LeO.ite ?_ ?_)
      | (with_reducible refine LeO.bind ?_ (fun _ => ?_))
      | exact ih0 _ _ _ _
      | exact ih1 _ _ _ _
      | exact ih2 _ _ _ _
      | exact ih3 _ _ _ _
      | exact phaetonref01_Same.mono _ _ _
      | exact phaetonref04_Right.mono _ _ _ _ _ _
      | exact phaetontop_head06.mono _
      | exact LeO.none _
      | refine LeO.ite ?_ ?_
      | refine LeO.bind ?_ (fun _ => ?_)
    · intro y0 y1 y2 y3
      unfold phaetontop_TopMany.j2
      repeat' first
      | (with_reducible exact ih0 _ _ _ _)
      | (with_reducible exact ih1 _ _ _ _)
      | (with_reducible exact ih2 _ _ _ _)
      | (with_reducible exact ih3 _ _ _ _)
      | (with_reducible exact phaetonref01_Same.mono _ _ _)
      | (with_reducible exact phaetonref04_Right.mono _ _ _ _ _ _)
      | (with_reducible exact phaetontop_head06.mono _)
      | (with_reducible exact LeO.refl _)
      | (with_reducible exact LeO.none _)
      | (with_reducible refine LeO.ite ?_ ?_)
      | (with_reducible refine LeO.bind ?_ (fun _ => ?_))
      | exact ih0 _ _ _ _
      | exact ih1 _ _ _ _
      | exact ih2 _ _ _ _
      | exact ih3 _ _ _ _
      | exact phaetonref01_Same.mono _ _ _
      | exact phaetonref04_Right.mono _ _ _ _ _ _
      | exact phaetontop_head06.mono _
      | exact LeO.none _
      | refine LeO.ite ?_ ?_
      | refine LeO.bind ?_ (fun _ => ?_)
    · intro y0 y1 y2 y3
      unfold phaetontop_TopMany.l1
      repeat' first
      | (with_reducible exact ih0 _ _ _ _)
      | (with_reducible exact ih1 _ _ _ _)
      | (with_reducible exact ih2 _ _ _ _)
      | (with_reducible exact ih3 _ _ _ _)
      | (with_reducible exact phaetonref01_Same.mono _ _ _)
      | (with_reducible exact phaetonref04_Right.mono _ _ _ _ _ _)
      | (with_reducible exact phaetontop_head06.mono _)
      | (with_reducible exact LeO.refl _)
      | (with_reducible exact LeO.none _)
      | (with_reducible refine LeO.ite ?_ ?_)
      | (with_reducible refine LeO.bind ?_ (fun _ => ?_))
      | exact ih0 _ _ _ _
      | exact ih1 _ _ _ _
      | exact ih2 _ _ _ _
      | exact ih3 _ _ _ _
      | exact phaetonref01_Same.mono _ _ _
      | exact phaetonref04_Right.mono _ _ _ _ _ _
      | exact phaetontop_head06.mono _
      | exact LeO.none _
      | refine LeO.ite ?_ ?_
      | refine LeO.bind ?_ (fun _ => ?_)
theorem phaetontop_TopMany.mono : ∀ a0 a1 k, LeO (phaetontop_TopMany.f k a0 a1) (phaetontop_TopMany.f (k + 1) a0 a1) := by
  intro a0 a1 k
  obtain ⟨ih0, ih1, ih2, ih3⟩ := phaetontop_TopMany.mono_l k
  unfold phaetontop_TopMany.f
  repeat' first
      | (with_reducible exact ih0 _ _ _ _)
      | (with_reducible exact ih1 _ _ _ _)
      | (with_reducible exact ih2 _ _ _ _)
      | (with_reducible exact ih3 _ _ _ _)
      | (with_reducible exact phaetonref01_Same.mono _ _ _)
      | (with_reducible exact phaetonref04_Right.mono _ _ _ _ _ _)
      | (with_reducible exact phaetontop_head06.mono _)
      | (with_reducible exact LeO.refl _)
      | (with_reducible exact LeO.none _)
      | (with_reducible refine LeO.ite ?_ ?_)
      | (with_reducible refine LeO.bind ?_ (fun _ => ?_))
      | exact ih0 _ _ _ _
      | exact ih1 _ _ _ _
      | exact ih2 _ _ _ _
      | exact ih3 _ _ _ _
      | exact phaetonref01_Same.mono _ _ _
      | exact phaetonref04_Right.mono _ _ _ _ _ _
      | exact phaetontop_head06.mono _
      | exact LeO.none _
      | refine LeO.ite ?_ ?_
      | refine LeO.bind ?_ (fun _ => ?_)
def phaetontop_TopMany.T11 : Bool × List (List Nat × List Nat) := (true, [([], []), ([], []), ([], []), ([1, 2], [1, 2]), ([0, 3], [0, 3]), ([], []), ([], []), ([5, 6], [5, 6]), ([4, 7, 4], [4, 7]), ([8, 8, 0, 1, 2, 3, 4, 5, 6, 7, 8], [8])])
def phaetontop_TopMany.B11 : List Nat := [0, 0, 0, 6, 15, 0, 0, 96, 255, 511]
theorem phaetontop_TopMany.tab11 : rtab .any (opsOf Try.f3 11) = phaetontop_TopMany.T11 := by kernel_rfl
theorem phaetontop_TopMany.bits11 : waitsOk phaetontop_TopMany.T11.2 phaetontop_TopMany.B11 = true := by kernel_rfl
def phaetontop_TopMany.T13 : Bool × List (List Nat × List Nat) := (true, [([], []), ([0], [0]), ([1], [1]), ([2], [2]), ([2], [2]), ([4, 2], [2, 4]), ([3, 5, 2], [2, 3, 5]), ([2, 6], [2, 6]), ([7, 2], [7]), ([8], [8]), ([9, 8], [8, 9]), ([8, 10], [8, 10]), ([11, 8], [11]), ([12], [12]), ([12], [12]), ([14, 12], [12, 14]), ([13, 15, 12], [12, 13, 15]), ([12, 16], [12, 16]), ([17, 12], [17]), ([18], [18]), ([18], [18]), ([19, 20, 18], [18, 19, 20]), ([21, 18], [18, 21]), ([22, 18, 18], [18, 22]), ([18], [18]), ([18], [18]), ([24, 25, 18], [18, 24, 25]), ([26, 18], [18, 26]), ([27, 23, 18], [18, 27]), ([23, 28, 28, 18], [18, 23, 28]), ([29, 18], [18, 29]), ([18, 30], [18, 30])])
def phaetontop_TopMany.B13 : List Nat := [0, 1, 3, 7, 7, 23, 63, 127, 255, 511, 1023, 2047, 4095, 8191, 8191, 24575, 65535, 131071, 262143, 524287, 524287, 2097151, 4194303, 8388607, 524287, 524287, 50855935, 117964799, 268435455, 536870911, 1073741823, 2147483647]
theorem phaetontop_TopMany.tab13 : rtab .any (opsOf Try.f3 13) = phaetontop_TopMany.T13 := by kernel_rfl
theorem phaetontop_TopMany.bits13 : waitsOk phaetontop_TopMany.T13.2 phaetontop_TopMany.B13 = true := by kernel_rfl
def phaetontop_TopMany.T18 : Bool × List (List Nat × List Nat) := (true, [([], []), ([], []), ([0, 1], [0, 1]), ([2], [2]), ([], []), ([], []), ([4, 5], [4, 5]), ([6], [6]), ([3, 7], [3, 7]), ([8], [8]), ([9], [9])])
def phaetontop_TopMany.B18 : List Nat := [0, 0, 3, 7, 0, 0, 48, 112, 255, 511, 1023]
theorem phaetontop_TopMany.tab18 : rtab .any (opsOf Try.f3 18) = phaetontop_TopMany.T18 := by kernel_rfl
theorem phaetontop_TopMany.bits18 : waitsOk phaetontop_TopMany.T18.2 phaetontop_TopMany.B18 = true := by kernel_rfl
theorem lit_info : (Try.prog.info? 26).map (fun i => (i.zero.map (fun z => z.cells.size), i.size)) = some (some 5, 5) := by kernel_rfl
theorem lit_under : Try.prog.underlying 22 = some (.slice 26) := by kernel_rfl
theorem lit_fill (zs : Array Value) (hz : zs.size = 10) (a0 a1 a2 a3 a4 b0 b1 b2 b3 b4 : Value) : Instr.fill (fun i => some (i * 5, 5)) zs
  [(0, .agg #[a0, a1, a2, a3, a4]), (1, .agg #[b0, b1, b2, b3, b4])] = some #[a0, a1, a2, a3, a4, b0, b1, b2, b3, b4] := by
  rcases zs with ⟨l⟩
  match l, hz with
  | [x0, x1, x2, x3, x4, x5, x6, x7, x8, x9], _ => simp [Instr.fill, Value.cells]
theorem lit_two (w : World) (a0 a1 a2 a3 a4 b0 b1 b2 b3 b4 : Value) :
   (Instr.buildSlice 22 2 #[(0, .agg #[a0, a1, a2, a3, a4]), (1, .agg #[b0, b1, b2, b3, b4])]).run Try.prog w
   = .ok (.slice (some ⟨w.heap.size, 0, none⟩) 2 2) (w.alloc (.cells #[a0, a1, a2, a3, a4, b0, b1, b2, b3, b4] 26)) := by
  have hi := lit_info
  cases hie : Try.prog.info? 26 with
  | none => rw [hie] at hi; cases hi
  | some ie =>
    rw [hie] at hi
    simp only [Option.map_some, Option.some.injEq, Prod.mk.injEq] at hi
    obtain ⟨hz, hs⟩ := hi
    cases hzz : ie.zero with
    | none => rw [hzz] at hz; cases hz
    | some z =>
      simp [Instr.buildSlice, run_underlying lit_under, sizeOf, typeInfo, zeroValue, hie, hzz, hs, newRow]
      rw [lit_fill _ (by simp)]
      simp
theorem lit_run {a : Act} {o : Oper} {x y : Operand} {a0 a1 a2 a3 a4 b0 b1 b2 b3 b4 : Value} (w : World) (ho : o.op = .buildSlice 22 2 #[(0, x), (1, y)]) (hx : a.eval x = .agg #[a0, a1, a2, a3, a4]) (hy : a.eval y = .agg #[b0, b1, b2, b3, b4]) :
    (execOp a.eval o).run Try.prog w = .ok (.value (.slice (some ⟨w.heap.size, 0, none⟩) 2 2)) (w.alloc (.cells #[a0, a1, a2, a3, a4, b0, b1, b2, b3, b4] 26)) := by
  unfold execOp
  simp only [ho, List.map_toArray, List.map_cons, List.map_nil, hx, hy]
  simp [lit_two]
theorem frames_F {W : World} {A : Option Addr} {n : Nat} {xs : List (S26)} (h : Kd.C k26 W A n xs) : Kd.F k26 W (fun _ => True) A n xs := fun W' hW => by
  have hs : W.heap.size ≤ W'.heap.size := by
    by_cases h0 : W.heap.size = 0
    · omega
    · have := heap_lt (hW (W.heap.size - 1) trivial (by omega)) (by omega)
      omega
  have h2 : Kd.C k26 { W with heap := W'.heap } A n xs := Kd.C_below h ⟨rfl, rfl, rfl, hs, fun j hj => hW j trivial hj⟩
  exact h2
set_option maxHeartbeats 8000000 in
set_option maxRecDepth 100000 in
theorem phaetontop_TopMany.calls (k : Nat) (P0_ : Nat → Prop) (A0 : Option Addr) (c0 : Nat) (l0 : List (S26)) (a1 : Int) (r : Bool) (w : World) (hs0 : Kd.V k26 26 w w.heap.size (fun k_ => P0_ k_) (.slice A0 l0.length c0) l0) (h : phaetontop_TopMany.f k l0 a1 = some r) :
    Calls Try.prog 3 #[.slice A0 l0.length c0, .int .u8 a1] w fun e w' => e = .returned (.bool r) ∧ Below w.heap.size w w' := by
  have hu26 := Try.underlying26
  have HO0 := Aside0.mk (show Kd.V k26 26 w w.heap.size (fun k_ => (P0_ k_ ∨ w.heap.size ≤ k_)) (.slice A0 l0.length c0) l0 from Kd.V_mono hs0 (fun k_ hk => .inl hk))
  have HB := Aside0.mk (Below.refl w.heap.size w)
  have H : ((phaetontop_head06.f k).bind fun t168 => (if (l0.length : Int) = 0 then (phaetontop_TopMany.j0 k l0 a1 t168 true) else (phaetontop_TopMany.j0 k l0 a1 t168 (decide ((l0.length : Int) > 12))))) = some r := h
  clear h
  replace H := Option.bind_eq_some_iff.mp H
  obtain ⟨t168, A30, H⟩ := H
  replace H : (if (l0.length : Int) = 0 then (phaetontop_TopMany.j0 k l0 a1 t168 true) else (phaetontop_TopMany.j0 k l0 a1 t168 (decide ((l0.length : Int) > 12)))) = some r := H
  have A3 := Aside0.mk A30
  clear A30
  have HC4 := Aside0.mk H
  clear H
  go_enter Try.func3, Try.ntmps3
  (try simp only [List.append])
  go_upto_region 2 with (first | ((with_reducible refine gate_callee (f := 6) rfl ?_); refine goesL_ (some 12) rfl rfl Try.func6 (by kernel_rfl) rfl #[] rfl (by (try simp only [List.map_toArray, List.map_cons, List.map_nil]); first | done | rfl | (simp only [List.length_drop, List.length_take]; rfl)) ?_; (with_reducible refine (phaetontop_head06.calls k  t168 _ A3.out).mono ?_); rintro e w5 ⟨rfl, hb⟩; refine ⟨_, rfl, ?_⟩; have n0_ := Aside0.mk (Kd.V_below (by (with_reducible repeat (first | apply Kd.V_alloc | apply Kd.V_drewN | apply Kd.V_drew)); exact HO0.out) hb); have n1_ := Aside0.mk (below_step (by repeat (first | (with_reducible first | exact HB.out | apply below_alloc | apply pw_below_drewN | apply below_drew1) | exact HB.out)) hb); clear HO0; clear HB; have HO0 := n0_; have HB := n1_; clear n0_ n1_; (try clear hb); (try clear hb2); (try clear hk); (try clear hi)))
  (try simp only [Act.put, List.setIfInBounds_toArray, List.set_cons_zero, List.set_cons_succ])
  go_cut [20] (fun v20 wc => ∃ (kq : Nat) (x20_3 : Bool), v20 = .bool x20_3 ∧ Aside0 (phaetontop_TopMany.j0 kq l0 a1 t168 x20_3 = some r) ∧ Aside0 (kq ≤ k) ∧ Aside0 (Kd.V k26 26 wc w.heap.size (fun k_ => (P0_ k_ ∨ w.heap.size ≤ k_)) (.slice A0 l0.length c0) l0) ∧ Aside0 (Below w.heap.size w wc))
  case first => as_aux_lemma =>
    have H := HC4.out
    clear HC4
    by_cases c6 : (l0.length : Int) = 0
    · rw [if_pos c6] at H
      have c6b0 : ((l0.length : Int) == 0) = true := beq_iff_eq.mpr c6
      have c6b1 : ((l0.length : Int) != 0) = false := bne_eq_false_iff_eq.mpr c6
      clear c6
      (first | rw [c6b0] | (simp only [i64_w, i32_w]; rw [c6b0]) | skip)
      have H' := Aside0.mk H
      clear H
      go_wp2
      go_meet
      case rel => exact ⟨_, (true), (by first | rfl | (simp; done) | (simp [*]; done)), H', ⟨by first | omega | exact Nat.le_refl _⟩, ⟨by (with_reducible repeat (first | apply Kd.V_alloc | apply Kd.V_drewN | apply Kd.V_drew)); exact HO0.out⟩, ⟨by repeat (first | (with_reducible first | exact HB.out | apply below_alloc | apply pw_below_drewN | apply below_drew1) | exact HB.out)⟩⟩
    · rw [if_neg c6] at H
      have c6b0 : ((l0.length : Int) == 0) = false := beq_eq_false_iff_ne.mpr c6
      have c6b1 : ((l0.length : Int) != 0) = true := bne_iff_ne.mpr c6
      have c6b2 : ¬ (l0 = []) := fun h_ => c6 (by rw [h_]; rfl)
      (first | rw [c6b0] | (simp only [i64_w, i32_w]; rw [c6b0]) | skip)
      have H' := Aside0.mk H
      clear H
      go_wp2
      go_meet
      case rel => exact ⟨_, (decide ((l0.length : Int) > 12)), (by first | rfl | (simp; done) | (simp [*]; done)), H', ⟨by first | omega | exact Nat.le_refl _⟩, ⟨by (with_reducible repeat (first | apply Kd.V_alloc | apply Kd.V_drewN | apply Kd.V_drew)); exact HO0.out⟩, ⟨by repeat (first | (with_reducible first | exact HB.out | apply below_alloc | apply pw_below_drewN | apply below_drew1) | exact HB.out)⟩⟩
  case rest => as_aux_lemma =>
    clear HC4
    try clear p2
    try clear c3
    try clear c6
    try clear c6b0
    try clear c6b1
    try clear c6b2
    obtain ⟨kq, x20_3, rfl, HA, HJ3, HO_0, HB⟩ := hcut
    cases kq with
    | zero => exact absurd HA.out (by simp [phaetontop_TopMany.j0])
    | succ kj3 =>
      have H := HA.out
      clear HA
      simp only [phaetontop_TopMany.j0] at H
      by_cases c7 : x20_3 = true
      · subst c7
        have H1 : (if t168 = true then (some true) else (none)) = some r := by rw [if_pos rfl] at H; exact H
        clear H
        have H := H1
        clear H1
        by_cases c8 : t168 = true
        · subst c8
          have H1 : (some true) = some r := by rw [if_pos rfl] at H; exact H
          clear H
          have H := H1
          clear H1
          obtain rfl := Option.some.inj H
          go_wp2
          go_ret
          exact ⟨by first | rfl | (simp [errW_none, errW_some] <;> rfl) | (simp [*, errW_none, errW_some] <;> rfl), by repeat (first | (with_reducible first | exact HB.out | apply below_alloc | apply pw_below_drewN | apply below_drew1) | exact HB.out)⟩
        · replace c8 := Bool.eq_false_iff.mpr c8
          subst c8
          have H1 : (none) = some r := by rw [if_neg (show ¬ (false = true) by decide)] at H; exact H
          clear H
          have H := H1
          clear H1
          exact absurd H (by simp)
      · replace c7 := Bool.eq_false_iff.mpr c7
        subst c7
        have H1 : (phaetontop_TopMany.l0 kj3 l0 a1 t168 0) = some r := by rw [if_neg (show ¬ (false = true) by decide)] at H; exact H
        clear H
        have H := H1
        clear H1
        have H' := Aside0.mk H
        clear H
        go_wp2
        go_loopg [6] kj3 (fun kq v6 w' => ∃ (x6_2 : Int), v6 = .int .i64 x6_2 ∧ Aside0 (phaetontop_TopMany.l0 kq l0 a1 t168 x6_2 = some r) ∧ Aside0 (kq ≤ kj3) ∧ Aside0 (Kd.V k26 26 w' w.heap.size (fun k_ => (P0_ k_ ∨ w.heap.size ≤ k_)) (.slice A0 l0.length c0) l0) ∧ Aside0 (Below w.heap.size w w'))
        case atStart => exact ⟨(0), (by first | rfl | (simp; done) | (simp [*]; done)), H', ⟨Nat.le_refl _⟩, ⟨by (with_reducible repeat (first | apply Kd.V_alloc | apply Kd.V_drewN | apply Kd.V_drew)); exact HO_0.out⟩, ⟨by repeat (first | (with_reducible first | exact HB.out | apply below_alloc | apply pw_below_drewN | apply below_drew1) | exact HB.out)⟩⟩
        case round =>
          clear H'
          try clear p2
          try clear c3
          try clear c6
          try clear c6b0
          try clear c6b1
          try clear c6b2
          try clear c7
          try clear c8
          try clear p2
          obtain ⟨x6_2, rfl, HA, HK2, HO_0, HB⟩ := hrel
          cases gk with
          | zero => exact absurd HA.out (by simp [phaetontop_TopMany.l0])
          | succ k2 =>
            have H := HA.out
            clear HA
            simp only [phaetontop_TopMany.l0] at H
            by_cases c9 : x6_2 < (l0.length : Int)
            · rw [if_pos c9] at H
              have c9b0 : decide (x6_2 < (l0.length : Int)) = true := decide_eq_true c9
              clear c9
              by_cases c10 : 0 ≤ x6_2
              · rw [if_pos c10] at H
                have c10b0 : decide (0 ≤ x6_2) = true := decide_eq_true c10
                clear c10
                by_cases c11 : (((rd_T26 l0 x6_2).f4).length : Int) > 8
                · rw [if_pos c11] at H
                  have c11b0 : decide (8 < (((rd_T26 l0 x6_2).f4).length : Int)) = true := decide_eq_true c11
                  have c11b1 : decide (8 < ((rd_T26 l0 x6_2).f4).length) = true := decide_eq_true (by omega)
                  clear c11
                  by_cases c12 : t168 = true
                  · subst c12
                    have H1 : (some true) = some r := by rw [if_pos rfl] at H; exact H
                    clear H
                    have H := H1
                    clear H1
                    obtain rfl := Option.some.inj H
                    have p169 : 0 ≤ (x6_2 : Int) := of_decide_eq_true (by first | (with_reducible assumption) | assumption)
                    have q169 : x6_2 < (l0.length : Int) := of_decide_eq_true (by first | (with_reducible assumption) | assumption)
                    obtain ⟨ad169, A169_4, c169_4, e169, hx169_0, hx169_1, hx169_2, hx169_3, hx169_4, hl169_4, hi169_4⟩ := at_T26 (Kd.V_reads' HO_0.out).2.2 x6_2 p169 q169
                    cases e169
                    obtain ⟨ce169, hce169, hMe169, hcc169⟩ := Kd.V_get HO_0.out z26 x6_2 p169 (by first | exact q169 | exact of_decide_eq_true (by first | (with_reducible assumption) | assumption) | (have e_ := (Kd.V_reads' HO_0.out).1; omega))
                    obtain ⟨ua169_4, uc169_4, rfl, ul169_4, ge169_4⟩ := k26_openF hMe169
                    have hv169_4 := hcc169 4 _ rfl
                    rw [add_field _ _ 4 (by omega)] at hv169_4
                    replace hv169_4 := Option.some.inj (hv169_4.symm.trans hx169_4)
                    injection hv169_4 with hva_ hvn_ hvc_
                    rw [hva_] at ge169_4
                    rw [hvc_] at ul169_4
                    have HL169_4 := Aside0.mk (show Kd.V (Kd.int .u8) 5 _ w.heap.size _ _ ((rd_T26 l0 x6_2).f4) from Kd.V_mk ul169_4 ge169_4)
                    clear hva_ hvn_ hvc_ ge169_4 ul169_4
                    clear hcc169 hce169
                    have HR169_4 := Aside0.mk hi169_4
                    have HC169_4 := Aside0.mk hl169_4
                    clear hi169_4 hl169_4
                    replace p169 := eq_true p169
                    replace q169 := eq_true q169
                    go_wp2
                    go_ret
                    exact ⟨by first | rfl | (simp [errW_none, errW_some] <;> rfl) | (simp [*, errW_none, errW_some] <;> rfl), by repeat (first | (with_reducible first | exact HB.out | apply below_alloc | apply pw_below_drewN | apply below_drew1) | exact HB.out)⟩
                  · replace c12 := Bool.eq_false_iff.mpr c12
                    subst c12
                    have H1 : (none) = some r := by rw [if_neg (show ¬ (false = true) by decide)] at H; exact H
                    clear H
                    have H := H1
                    clear H1
                    exact absurd H (by simp)
                · rw [if_neg c11] at H
                  have c11b0 : decide (8 < (((rd_T26 l0 x6_2).f4).length : Int)) = false := decide_eq_false c11
                  have c11b1 : decide (8 < ((rd_T26 l0 x6_2).f4).length) = false := decide_eq_false (by omega)
                  clear c11
                  replace H := Option.bind_eq_some_iff.mp H
                  obtain ⟨t171, A130, H⟩ := H
                  replace H : (if t171 = true then (phaetontop_TopMany.l0 k2 l0 a1 t168 (wrap64 (x6_2 + 1))) else (if t168 = true then (some true) else (none))) = some r := H
                  have A13 := Aside0.mk A130
                  clear A130
                  by_cases c14 : t171 = true
                  · subst c14
                    have H1 : (phaetontop_TopMany.l0 k2 l0 a1 t168 (wrap64 (x6_2 + 1))) = some r := by rw [if_pos rfl] at H; exact H
                    clear H
                    have H := H1
                    clear H1
                    have H' := Aside0.mk H
                    clear H
                    have p169 : 0 ≤ (x6_2 : Int) := of_decide_eq_true (by first | (with_reducible assumption) | assumption)
                    have q169 : x6_2 < (l0.length : Int) := of_decide_eq_true (by first | (with_reducible assumption) | assumption)
                    obtain ⟨ad169, A169_4, c169_4, e169, hx169_0, hx169_1, hx169_2, hx169_3, hx169_4, hl169_4, hi169_4⟩ := at_T26 (Kd.V_reads' HO_0.out).2.2 x6_2 p169 q169
                    cases e169
                    obtain ⟨ce169, hce169, hMe169, hcc169⟩ := Kd.V_get HO_0.out z26 x6_2 p169 (by first | exact q169 | exact of_decide_eq_true (by first | (with_reducible assumption) | assumption) | (have e_ := (Kd.V_reads' HO_0.out).1; omega))
                    obtain ⟨ua169_4, uc169_4, rfl, ul169_4, ge169_4⟩ := k26_openF hMe169
                    have hv169_4 := hcc169 4 _ rfl
                    rw [add_field _ _ 4 (by omega)] at hv169_4
                    replace hv169_4 := Option.some.inj (hv169_4.symm.trans hx169_4)
                    injection hv169_4 with hva_ hvn_ hvc_
                    rw [hva_] at ge169_4
                    rw [hvc_] at ul169_4
                    have HL169_4 := Aside0.mk (show Kd.V (Kd.int .u8) 5 _ w.heap.size _ _ ((rd_T26 l0 x6_2).f4) from Kd.V_mk ul169_4 ge169_4)
                    clear hva_ hvn_ hvc_ ge169_4 ul169_4
                    clear hcc169 hce169
                    have HR169_4 := Aside0.mk hi169_4
                    have HC169_4 := Aside0.mk hl169_4
                    clear hi169_4 hl169_4
                    replace p169 := eq_true p169
                    replace q169 := eq_true q169
                    have p170 : 0 ≤ (x6_2 : Int) := of_decide_eq_true (by first | (with_reducible assumption) | assumption)
                    have q170 : x6_2 < (l0.length : Int) := of_decide_eq_true (by first | (with_reducible assumption) | assumption)
                    obtain ⟨ad170, A170_4, c170_4, e170, hx170_0, hx170_1, hx170_2, hx170_3, hx170_4, hl170_4, hi170_4⟩ := at_T26 (Kd.V_reads' HO_0.out).2.2 x6_2 p170 q170
                    obtain rfl : ad169 = ad170 := (by injection e170)
                    obtain ⟨ce170, hce170, hMe170, hcc170⟩ := Kd.V_get HO_0.out z26 x6_2 p170 (by first | exact q170 | exact of_decide_eq_true (by first | (with_reducible assumption) | assumption) | (have e_ := (Kd.V_reads' HO_0.out).1; omega))
                    obtain ⟨ua170_4, uc170_4, rfl, ul170_4, ge170_4⟩ := k26_openF hMe170
                    have hv170_4 := hcc170 4 _ rfl
                    rw [add_field _ _ 4 (by omega)] at hv170_4
                    replace hv170_4 := Option.some.inj (hv170_4.symm.trans hx170_4)
                    injection hv170_4 with hva_ hvn_ hvc_
                    rw [hva_] at ge170_4
                    rw [hvc_] at ul170_4
                    have HL170_4 := Aside0.mk (show Kd.V (Kd.int .u8) 5 _ w.heap.size _ _ ((rd_T26 l0 x6_2).f4) from Kd.V_mk ul170_4 ge170_4)
                    clear hva_ hvn_ hvc_ ge170_4 ul170_4
                    clear hcc170 hce170
                    have HR170_4 := Aside0.mk hi170_4
                    have HC170_4 := Aside0.mk hl170_4
                    clear hi170_4 hl170_4
                    replace p170 := eq_true p170
                    replace q170 := eq_true q170
                    have ea_ := Option.some.inj (hx169_4.symm.trans hx170_4)
                    injection ea_ with ea_ en_ ec_
                    subst ea_
                    subst ec_
                    clear en_
                    go_wp2_with (first | (go_at_call 7; (with_reducible refine (phaetonref04_Right.calls k2 ((rd_T26 l0 x6_2).f0) ((rd_T26 l0 x6_2).f1) ((rd_T26 l0 x6_2).f2) ((rd_T26 l0 x6_2).f3) _ _ ((rd_T26 l0 x6_2).f4) true _ ?side1 ?side2 A13.out).mono ?_); (case side1 => repeat (first | exact (by repeat (first | (with_reducible exact HR170_4.out) | (with_reducible refine Kd.C_alloc ?_ _) | (with_reducible refine Kd.C_drewN ?_ _) | (with_reducible refine Kd.C_drew ?_) | exact HR170_4.out)) | (with_reducible refine Kd.C_alloc ?_ _) | (with_reducible refine Kd.C_drewN ?_ _) | (with_reducible refine Kd.C_drew ?_))); (case side2 => exact HC170_4.out); rintro e w15 ⟨rfl, hb⟩; have n0_ := Aside0.mk (Kd.V_below (by (with_reducible repeat (first | apply Kd.V_alloc | apply Kd.V_drewN | apply Kd.V_drew)); exact HO_0.out) hb); have n1_ := Aside0.mk (Kd.V_below (by (with_reducible repeat (first | apply Kd.V_alloc | apply Kd.V_drewN | apply Kd.V_drew)); exact HL169_4.out) hb); have n2_ := Aside0.mk (Kd.V_below (by (with_reducible repeat (first | apply Kd.V_alloc | apply Kd.V_drewN | apply Kd.V_drew)); exact HL170_4.out) hb); have n3_ := Aside0.mk (Kd.C_below (by repeat (first | (with_reducible exact HR169_4.out) | (with_reducible refine Kd.C_alloc ?_ _) | (with_reducible refine Kd.C_drewN ?_ _) | (with_reducible refine Kd.C_drew ?_) | exact HR169_4.out)) hb); have n4_ := Aside0.mk (Kd.C_below (by repeat (first | (with_reducible exact HR170_4.out) | (with_reducible refine Kd.C_alloc ?_ _) | (with_reducible refine Kd.C_drewN ?_ _) | (with_reducible refine Kd.C_drew ?_) | exact HR170_4.out)) hb); have n5_ := Aside0.mk (below_step (by repeat (first | (with_reducible first | exact HB.out | apply below_alloc | apply pw_below_drewN | apply below_drew1) | exact HB.out)) hb); clear HO_0; clear HL169_4; clear HL170_4; clear HR169_4; clear HR170_4; clear HB; have HO_0 := n0_; have HL169_4 := n1_; have HL170_4 := n2_; have HR169_4 := n3_; have HR170_4 := n4_; have HB := n5_; clear n0_ n1_ n2_ n3_ n4_ n5_; (try clear hb); (try clear hb2); (try clear hk); (try clear hi)))
                    go_roundg k2
                    case measure => have := HJ3.out; have := HK2.out; omega
                    case rel => exact ⟨(wrap64 (x6_2 + 1)), (by first | rfl | (simp; done) | (simp [*]; done)), H', ⟨by have := HJ3.out; have := HK2.out; omega⟩, ⟨by (with_reducible repeat (first | apply Kd.V_alloc | apply Kd.V_drewN | apply Kd.V_drew)); exact HO_0.out⟩, ⟨by repeat (first | (with_reducible first | exact HB.out | apply below_alloc | apply pw_below_drewN | apply below_drew1) | exact HB.out)⟩⟩
                  · replace c14 := Bool.eq_false_iff.mpr c14
                    subst c14
                    have H1 : (if t168 = true then (some true) else (none)) = some r := by rw [if_neg (show ¬ (false = true) by decide)] at H; exact H
                    clear H
                    have H := H1
                    clear H1
                    by_cases c16 : t168 = true
                    · subst c16
                      have H1 : (some true) = some r := by rw [if_pos rfl] at H; exact H
                      clear H
                      have H := H1
                      clear H1
                      obtain rfl := Option.some.inj H
                      have p169 : 0 ≤ (x6_2 : Int) := of_decide_eq_true (by first | (with_reducible assumption) | assumption)
                      have q169 : x6_2 < (l0.length : Int) := of_decide_eq_true (by first | (with_reducible assumption) | assumption)
                      obtain ⟨ad169, A169_4, c169_4, e169, hx169_0, hx169_1, hx169_2, hx169_3, hx169_4, hl169_4, hi169_4⟩ := at_T26 (Kd.V_reads' HO_0.out).2.2 x6_2 p169 q169
                      cases e169
                      obtain ⟨ce169, hce169, hMe169, hcc169⟩ := Kd.V_get HO_0.out z26 x6_2 p169 (by first | exact q169 | exact of_decide_eq_true (by first | (with_reducible assumption) | assumption) | (have e_ := (Kd.V_reads' HO_0.out).1; omega))
                      obtain ⟨ua169_4, uc169_4, rfl, ul169_4, ge169_4⟩ := k26_openF hMe169
                      have hv169_4 := hcc169 4 _ rfl
                      rw [add_field _ _ 4 (by omega)] at hv169_4
                      replace hv169_4 := Option.some.inj (hv169_4.symm.trans hx169_4)
                      injection hv169_4 with hva_ hvn_ hvc_
                      rw [hva_] at ge169_4
                      rw [hvc_] at ul169_4
                      have HL169_4 := Aside0.mk (show Kd.V (Kd.int .u8) 5 _ w.heap.size _ _ ((rd_T26 l0 x6_2).f4) from Kd.V_mk ul169_4 ge169_4)
                      clear hva_ hvn_ hvc_ ge169_4 ul169_4
                      clear hcc169 hce169
                      have HR169_4 := Aside0.mk hi169_4
                      have HC169_4 := Aside0.mk hl169_4
                      clear hi169_4 hl169_4
                      replace p169 := eq_true p169
                      replace q169 := eq_true q169
                      have p170 : 0 ≤ (x6_2 : Int) := of_decide_eq_true (by first | (with_reducible assumption) | assumption)
                      have q170 : x6_2 < (l0.length : Int) := of_decide_eq_true (by first | (with_reducible assumption) | assumption)
                      obtain ⟨ad170, A170_4, c170_4, e170, hx170_0, hx170_1, hx170_2, hx170_3, hx170_4, hl170_4, hi170_4⟩ := at_T26 (Kd.V_reads' HO_0.out).2.2 x6_2 p170 q170
                      obtain rfl : ad169 = ad170 := (by injection e170)
                      obtain ⟨ce170, hce170, hMe170, hcc170⟩ := Kd.V_get HO_0.out z26 x6_2 p170 (by first | exact q170 | exact of_decide_eq_true (by first | (with_reducible assumption) | assumption) | (have e_ := (Kd.V_reads' HO_0.out).1; omega))
                      obtain ⟨ua170_4, uc170_4, rfl, ul170_4, ge170_4⟩ := k26_openF hMe170
                      have hv170_4 := hcc170 4 _ rfl
                      rw [add_field _ _ 4 (by omega)] at hv170_4
                      replace hv170_4 := Option.some.inj (hv170_4.symm.trans hx170_4)
                      injection hv170_4 with hva_ hvn_ hvc_
                      rw [hva_] at ge170_4
                      rw [hvc_] at ul170_4
                      have HL170_4 := Aside0.mk (show Kd.V (Kd.int .u8) 5 _ w.heap.size _ _ ((rd_T26 l0 x6_2).f4) from Kd.V_mk ul170_4 ge170_4)
                      clear hva_ hvn_ hvc_ ge170_4 ul170_4
                      clear hcc170 hce170
                      have HR170_4 := Aside0.mk hi170_4
                      have HC170_4 := Aside0.mk hl170_4
                      clear hi170_4 hl170_4
                      replace p170 := eq_true p170
                      replace q170 := eq_true q170
                      have ea_ := Option.some.inj (hx169_4.symm.trans hx170_4)
                      injection ea_ with ea_ en_ ec_
                      subst ea_
                      subst ec_
                      clear en_
                      go_wp2_with (first | (go_at_call 7; (with_reducible refine (phaetonref04_Right.calls k2 ((rd_T26 l0 x6_2).f0) ((rd_T26 l0 x6_2).f1) ((rd_T26 l0 x6_2).f2) ((rd_T26 l0 x6_2).f3) _ _ ((rd_T26 l0 x6_2).f4) false _ ?side1 ?side2 A13.out).mono ?_); (case side1 => repeat (first | exact (by repeat (first | (with_reducible exact HR170_4.out) | (with_reducible refine Kd.C_alloc ?_ _) | (with_reducible refine Kd.C_drewN ?_ _) | (with_reducible refine Kd.C_drew ?_) | exact HR170_4.out)) | (with_reducible refine Kd.C_alloc ?_ _) | (with_reducible refine Kd.C_drewN ?_ _) | (with_reducible refine Kd.C_drew ?_))); (case side2 => exact HC170_4.out); rintro e w17 ⟨rfl, hb⟩; have n0_ := Aside0.mk (Kd.V_below (by (with_reducible repeat (first | apply Kd.V_alloc | apply Kd.V_drewN | apply Kd.V_drew)); exact HO_0.out) hb); have n1_ := Aside0.mk (Kd.V_below (by (with_reducible repeat (first | apply Kd.V_alloc | apply Kd.V_drewN | apply Kd.V_drew)); exact HL169_4.out) hb); have n2_ := Aside0.mk (Kd.V_below (by (with_reducible repeat (first | apply Kd.V_alloc | apply Kd.V_drewN | apply Kd.V_drew)); exact HL170_4.out) hb); have n3_ := Aside0.mk (Kd.C_below (by repeat (first | (with_reducible exact HR169_4.out) | (with_reducible refine Kd.C_alloc ?_ _) | (with_reducible refine Kd.C_drewN ?_ _) | (with_reducible refine Kd.C_drew ?_) | exact HR169_4.out)) hb); have n4_ := Aside0.mk (Kd.C_below (by repeat (first | (with_reducible exact HR170_4.out) | (with_reducible refine Kd.C_alloc ?_ _) | (with_reducible refine Kd.C_drewN ?_ _) | (with_reducible refine Kd.C_drew ?_) | exact HR170_4.out)) hb); have n5_ := Aside0.mk (below_step (by repeat (first | (with_reducible first | exact HB.out | apply below_alloc | apply pw_below_drewN | apply below_drew1) | exact HB.out)) hb); clear HO_0; clear HL169_4; clear HL170_4; clear HR169_4; clear HR170_4; clear HB; have HO_0 := n0_; have HL169_4 := n1_; have HL170_4 := n2_; have HR169_4 := n3_; have HR170_4 := n4_; have HB := n5_; clear n0_ n1_ n2_ n3_ n4_ n5_; (try clear hb); (try clear hb2); (try clear hk); (try clear hi)))
                      go_ret
                      exact ⟨by first | rfl | (simp [errW_none, errW_some] <;> rfl) | (simp [*, errW_none, errW_some] <;> rfl), by repeat (first | (with_reducible first | exact HB.out | apply below_alloc | apply pw_below_drewN | apply below_drew1) | exact HB.out)⟩
                    · replace c16 := Bool.eq_false_iff.mpr c16
                      subst c16
                      have H1 : (none) = some r := by rw [if_neg (show ¬ (false = true) by decide)] at H; exact H
                      clear H
                      have H := H1
                      clear H1
                      exact absurd H (by simp)
              · rw [if_neg c10] at H
                exact absurd H (by simp)
            · rw [if_neg c9] at H
              have c9b0 : decide (x6_2 < (l0.length : Int)) = false := decide_eq_false c9
              clear c9
              replace H := Option.bind_eq_some_iff.mp H
              obtain ⟨t172, A180, H⟩ := H
              replace H : (if (l0.length : Int) = 0 then (none) else ((some (([] : List (S26)) : List (S26))).bind fun y173 => (if 0 ≤ (Int.tmod (wrap64 (a1)) (l0.length : Int)) then (if (Int.tmod (wrap64 (a1)) (l0.length : Int)) ≤ (l0.length : Int) then ((some (l0.drop ((Int.tmod (wrap64 (a1)) (l0.length : Int)) : Int).toNat : List (S26))).bind fun y176 => (if y173.length + y176.length < 2513169434916 then ((some (y173 ++ y176 : List (S26))).bind fun y181 => ((some (l0.take ((Int.tmod (wrap64 (a1)) (l0.length : Int)) : Int).toNat : List (S26))).bind fun y184 => (if y181.length + y184.length < 2513169434916 then ((some (y181 ++ y184 : List (S26))).bind fun y189 => ((arb_Win.f y189).bind fun t192 => (if t172 < 0 then (phaetontop_TopMany.j2 k2 l0 t168 t172 true) else (if t172 ≥ (l0.length : Int) then (phaetontop_TopMany.j2 k2 l0 t168 t172 true) else (if t192 < 0 then (phaetontop_TopMany.j2 k2 l0 t168 t172 true) else (if t192 ≥ (l0.length : Int) then (phaetontop_TopMany.j2 k2 l0 t168 t172 true) else (if 0 ≤ t172 then (if t172 < (l0.length : Int) then ((frame_Rank.f ((rd_T26 l0 t172).f0) ((rd_T26 l0 t172).f1) ((rd_T26 l0 t172).f2) ((rd_T26 l0 t172).f3) ((rd_T26 l0 t172).f4)).bind fun t194 => (if 0 ≤ t192 then (if t192 < (y189.length : Int) then ((frame_Rank.f ((rd_T26 y189 t192).f0) ((rd_T26 y189 t192).f1) ((rd_T26 y189 t192).f2) ((rd_T26 y189 t192).f3) ((rd_T26 y189 t192).f4)).bind fun t198 => ((phaetonref01_Same.f k2 t194 t198).bind fun t201 => (phaetontop_TopMany.j2 k2 l0 t168 t172 (!t201)))) else (none)) else (none))) else (none)) else (none)))))))) else (none)))) else (none))) else (none)) else (none)))) = some r := H
              have A18 := Aside0.mk A180
              clear A180
              by_cases c19 : (l0.length : Int) = 0
              · rw [if_pos c19] at H
                exact absurd H (by simp)
              · rw [if_neg c19] at H
                have c19b0 : ((l0.length : Int) == 0) = false := beq_eq_false_iff_ne.mpr c19
                have c19b1 : ((l0.length : Int) != 0) = true := bne_iff_ne.mpr c19
                have c19b2 : ¬ (l0 = []) := fun h_ => c19 (by rw [h_]; rfl)
                obtain ⟨y173, hy173⟩ : ∃ y_ : List (S26), y_ = (([] : List (S26))) := ⟨_, rfl⟩
                replace H : (if 0 ≤ (Int.tmod (wrap64 (a1)) (l0.length : Int)) then (if (Int.tmod (wrap64 (a1)) (l0.length : Int)) ≤ (l0.length : Int) then ((some (l0.drop ((Int.tmod (wrap64 (a1)) (l0.length : Int)) : Int).toNat : List (S26))).bind fun y176 => (if y173.length + y176.length < 2513169434916 then ((some (y173 ++ y176 : List (S26))).bind fun y181 => ((some (l0.take ((Int.tmod (wrap64 (a1)) (l0.length : Int)) : Int).toNat : List (S26))).bind fun y184 => (if y181.length + y184.length < 2513169434916 then ((some (y181 ++ y184 : List (S26))).bind fun y189 => ((arb_Win.f y189).bind fun t192 => (if t172 < 0 then (phaetontop_TopMany.j2 k2 l0 t168 t172 true) else (if t172 ≥ (l0.length : Int) then (phaetontop_TopMany.j2 k2 l0 t168 t172 true) else (if t192 < 0 then (phaetontop_TopMany.j2 k2 l0 t168 t172 true) else (if t192 ≥ (l0.length : Int) then (phaetontop_TopMany.j2 k2 l0 t168 t172 true) else (if 0 ≤ t172 then (if t172 < (l0.length : Int) then ((frame_Rank.f ((rd_T26 l0 t172).f0) ((rd_T26 l0 t172).f1) ((rd_T26 l0 t172).f2) ((rd_T26 l0 t172).f3) ((rd_T26 l0 t172).f4)).bind fun t194 => (if 0 ≤ t192 then (if t192 < (y189.length : Int) then ((frame_Rank.f ((rd_T26 y189 t192).f0) ((rd_T26 y189 t192).f1) ((rd_T26 y189 t192).f2) ((rd_T26 y189 t192).f3) ((rd_T26 y189 t192).f4)).bind fun t198 => ((phaetonref01_Same.f k2 t194 t198).bind fun t201 => (phaetontop_TopMany.j2 k2 l0 t168 t172 (!t201)))) else (none)) else (none))) else (none)) else (none)))))))) else (none)))) else (none))) else (none)) else (none)) = some r := by first | (rw [hy173]; with_reducible exact H) | (have H2_ := (Option.bind_some _ _).symm.trans H; rw [hy173]; with_reducible exact H2_) | (have H2_ := (Option.bind_some _ _).symm.trans H; with_reducible exact H2_) | with_reducible exact H | (rw [hy173]; exact H) | exact H
                have Ny173 := Aside0.mk hy173
                clear hy173
                obtain ⟨ji20, hji20⟩ : ∃ j_ : Int, (Int.tmod (wrap64 (a1)) (l0.length : Int)) = j_ := ⟨_, rfl⟩
                replace H : (if 0 ≤ (ji20) then (if (ji20) ≤ (l0.length : Int) then ((some (l0.drop ((ji20) : Int).toNat : List (S26))).bind fun y176 => (if y173.length + y176.length < 2513169434916 then ((some (y173 ++ y176 : List (S26))).bind fun y181 => ((some (l0.take ((ji20) : Int).toNat : List (S26))).bind fun y184 => (if y181.length + y184.length < 2513169434916 then ((some (y181 ++ y184 : List (S26))).bind fun y189 => ((arb_Win.f y189).bind fun t192 => (if t172 < 0 then (phaetontop_TopMany.j2 k2 l0 t168 t172 true) else (if t172 ≥ (l0.length : Int) then (phaetontop_TopMany.j2 k2 l0 t168 t172 true) else (if t192 < 0 then (phaetontop_TopMany.j2 k2 l0 t168 t172 true) else (if t192 ≥ (l0.length : Int) then (phaetontop_TopMany.j2 k2 l0 t168 t172 true) else (if 0 ≤ t172 then (if t172 < (l0.length : Int) then ((frame_Rank.f ((rd_T26 l0 t172).f0) ((rd_T26 l0 t172).f1) ((rd_T26 l0 t172).f2) ((rd_T26 l0 t172).f3) ((rd_T26 l0 t172).f4)).bind fun t194 => (if 0 ≤ t192 then (if t192 < (y189.length : Int) then ((frame_Rank.f ((rd_T26 y189 t192).f0) ((rd_T26 y189 t192).f1) ((rd_T26 y189 t192).f2) ((rd_T26 y189 t192).f3) ((rd_T26 y189 t192).f4)).bind fun t198 => ((phaetonref01_Same.f k2 t194 t198).bind fun t201 => (phaetontop_TopMany.j2 k2 l0 t168 t172 (!t201)))) else (none)) else (none))) else (none)) else (none)))))))) else (none)))) else (none))) else (none)) else (none)) = some r := by first | (rw [hji20] at H; exact H) | (simp only [hji20] at H ⊢; exact H)
                (try rw [hji20] at A18)
                by_cases c21 : 0 ≤ (ji20)
                · rw [if_pos c21] at H
                  have c21b0 := eq_true c21
                  have c21b1 : decide (0 ≤ (ji20)) = true := decide_eq_true c21
                  have c21m : max (ji20) 0 = (ji20) := by omega
                  clear c21
                  by_cases c22 : (ji20) ≤ (l0.length : Int)
                  · rw [if_pos c22] at H
                    have c22b0 := eq_true c22
                    have c22b1 : decide ((ji20) ≤ (l0.length : Int)) = true := decide_eq_true c22
                    clear c22
                    obtain ⟨y176, hy176⟩ : ∃ y_ : List (S26), y_ = (l0.drop ((ji20) : Int).toNat) := ⟨_, rfl⟩
                    replace H : (if y173.length + y176.length < 2513169434916 then ((some (y173 ++ y176 : List (S26))).bind fun y181 => ((some (l0.take ((ji20) : Int).toNat : List (S26))).bind fun y184 => (if y181.length + y184.length < 2513169434916 then ((some (y181 ++ y184 : List (S26))).bind fun y189 => ((arb_Win.f y189).bind fun t192 => (if t172 < 0 then (phaetontop_TopMany.j2 k2 l0 t168 t172 true) else (if t172 ≥ (l0.length : Int) then (phaetontop_TopMany.j2 k2 l0 t168 t172 true) else (if t192 < 0 then (phaetontop_TopMany.j2 k2 l0 t168 t172 true) else (if t192 ≥ (l0.length : Int) then (phaetontop_TopMany.j2 k2 l0 t168 t172 true) else (if 0 ≤ t172 then (if t172 < (l0.length : Int) then ((frame_Rank.f ((rd_T26 l0 t172).f0) ((rd_T26 l0 t172).f1) ((rd_T26 l0 t172).f2) ((rd_T26 l0 t172).f3) ((rd_T26 l0 t172).f4)).bind fun t194 => (if 0 ≤ t192 then (if t192 < (y189.length : Int) then ((frame_Rank.f ((rd_T26 y189 t192).f0) ((rd_T26 y189 t192).f1) ((rd_T26 y189 t192).f2) ((rd_T26 y189 t192).f3) ((rd_T26 y189 t192).f4)).bind fun t198 => ((phaetonref01_Same.f k2 t194 t198).bind fun t201 => (phaetontop_TopMany.j2 k2 l0 t168 t172 (!t201)))) else (none)) else (none))) else (none)) else (none)))))))) else (none)))) else (none)) = some r := by first | (rw [hy176]; with_reducible exact H) | (have H2_ := (Option.bind_some _ _).symm.trans H; rw [hy176]; with_reducible exact H2_) | (have H2_ := (Option.bind_some _ _).symm.trans H; with_reducible exact H2_) | with_reducible exact H | (rw [hy176]; exact H) | exact H
                    have Ny176 := Aside0.mk hy176
                    clear hy176
                    by_cases c23 : y173.length + y176.length < 2513169434916
                    · rw [if_pos c23] at H
                      have LMc23 := Aside0.mk c23
                      clear c23
                      obtain ⟨y181, hy181⟩ : ∃ y_ : List (S26), y_ = (y173 ++ y176) := ⟨_, rfl⟩
                      replace H : ((some (l0.take ((ji20) : Int).toNat : List (S26))).bind fun y184 => (if y181.length + y184.length < 2513169434916 then ((some (y181 ++ y184 : List (S26))).bind fun y189 => ((arb_Win.f y189).bind fun t192 => (if t172 < 0 then (phaetontop_TopMany.j2 k2 l0 t168 t172 true) else (if t172 ≥ (l0.length : Int) then (phaetontop_TopMany.j2 k2 l0 t168 t172 true) else (if t192 < 0 then (phaetontop_TopMany.j2 k2 l0 t168 t172 true) else (if t192 ≥ (l0.length : Int) then (phaetontop_TopMany.j2 k2 l0 t168 t172 true) else (if 0 ≤ t172 then (if t172 < (l0.length : Int) then ((frame_Rank.f ((rd_T26 l0 t172).f0) ((rd_T26 l0 t172).f1) ((rd_T26 l0 t172).f2) ((rd_T26 l0 t172).f3) ((rd_T26 l0 t172).f4)).bind fun t194 => (if 0 ≤ t192 then (if t192 < (y189.length : Int) then ((frame_Rank.f ((rd_T26 y189 t192).f0) ((rd_T26 y189 t192).f1) ((rd_T26 y189 t192).f2) ((rd_T26 y189 t192).f3) ((rd_T26 y189 t192).f4)).bind fun t198 => ((phaetonref01_Same.f k2 t194 t198).bind fun t201 => (phaetontop_TopMany.j2 k2 l0 t168 t172 (!t201)))) else (none)) else (none))) else (none)) else (none)))))))) else (none))) = some r := by first | (rw [hy181]; with_reducible exact H) | (have H2_ := (Option.bind_some _ _).symm.trans H; rw [hy181]; with_reducible exact H2_) | (have H2_ := (Option.bind_some _ _).symm.trans H; with_reducible exact H2_) | with_reducible exact H | (rw [hy181]; exact H) | exact H
                      have Ny181 := Aside0.mk hy181
                      clear hy181
                      have c24b0 := eq_true (of_decide_eq_true (by first | (with_reducible assumption) | assumption) : 0 ≤ (ji20))
                      have c25b0 := eq_true (of_decide_eq_true (by first | (with_reducible assumption) | assumption) : (ji20) ≤ (l0.length : Int))
                      obtain ⟨y184, hy184⟩ : ∃ y_ : List (S26), y_ = (l0.take ((ji20) : Int).toNat) := ⟨_, rfl⟩
                      replace H : (if y181.length + y184.length < 2513169434916 then ((some (y181 ++ y184 : List (S26))).bind fun y189 => ((arb_Win.f y189).bind fun t192 => (if t172 < 0 then (phaetontop_TopMany.j2 k2 l0 t168 t172 true) else (if t172 ≥ (l0.length : Int) then (phaetontop_TopMany.j2 k2 l0 t168 t172 true) else (if t192 < 0 then (phaetontop_TopMany.j2 k2 l0 t168 t172 true) else (if t192 ≥ (l0.length : Int) then (phaetontop_TopMany.j2 k2 l0 t168 t172 true) else (if 0 ≤ t172 then (if t172 < (l0.length : Int) then ((frame_Rank.f ((rd_T26 l0 t172).f0) ((rd_T26 l0 t172).f1) ((rd_T26 l0 t172).f2) ((rd_T26 l0 t172).f3) ((rd_T26 l0 t172).f4)).bind fun t194 => (if 0 ≤ t192 then (if t192 < (y189.length : Int) then ((frame_Rank.f ((rd_T26 y189 t192).f0) ((rd_T26 y189 t192).f1) ((rd_T26 y189 t192).f2) ((rd_T26 y189 t192).f3) ((rd_T26 y189 t192).f4)).bind fun t198 => ((phaetonref01_Same.f k2 t194 t198).bind fun t201 => (phaetontop_TopMany.j2 k2 l0 t168 t172 (!t201)))) else (none)) else (none))) else (none)) else (none)))))))) else (none)) = some r := by first | (rw [hy184]; with_reducible exact H) | (have H2_ := (Option.bind_some _ _).symm.trans H; rw [hy184]; with_reducible exact H2_) | (have H2_ := (Option.bind_some _ _).symm.trans H; with_reducible exact H2_) | with_reducible exact H | (rw [hy184]; exact H) | exact H
                      have Ny184 := Aside0.mk hy184
                      clear hy184
                      by_cases c26 : y181.length + y184.length < 2513169434916
                      · rw [if_pos c26] at H
                        have LMc26 := Aside0.mk c26
                        clear c26
                        obtain ⟨y189, hy189⟩ : ∃ y_ : List (S26), y_ = (y181 ++ y184) := ⟨_, rfl⟩
                        replace H : ((arb_Win.f y189).bind fun t192 => (if t172 < 0 then (phaetontop_TopMany.j2 k2 l0 t168 t172 true) else (if t172 ≥ (l0.length : Int) then (phaetontop_TopMany.j2 k2 l0 t168 t172 true) else (if t192 < 0 then (phaetontop_TopMany.j2 k2 l0 t168 t172 true) else (if t192 ≥ (l0.length : Int) then (phaetontop_TopMany.j2 k2 l0 t168 t172 true) else (if 0 ≤ t172 then (if t172 < (l0.length : Int) then ((frame_Rank.f ((rd_T26 l0 t172).f0) ((rd_T26 l0 t172).f1) ((rd_T26 l0 t172).f2) ((rd_T26 l0 t172).f3) ((rd_T26 l0 t172).f4)).bind fun t194 => (if 0 ≤ t192 then (if t192 < (y189.length : Int) then ((frame_Rank.f ((rd_T26 y189 t192).f0) ((rd_T26 y189 t192).f1) ((rd_T26 y189 t192).f2) ((rd_T26 y189 t192).f3) ((rd_T26 y189 t192).f4)).bind fun t198 => ((phaetonref01_Same.f k2 t194 t198).bind fun t201 => (phaetontop_TopMany.j2 k2 l0 t168 t172 (!t201)))) else (none)) else (none))) else (none)) else (none))))))) = some r := by first | (rw [hy189]; with_reducible exact H) | (have H2_ := (Option.bind_some _ _).symm.trans H; rw [hy189]; with_reducible exact H2_) | (have H2_ := (Option.bind_some _ _).symm.trans H; with_reducible exact H2_) | with_reducible exact H | (rw [hy189]; exact H) | exact H
                        have Ny189 := Aside0.mk hy189
                        clear hy189
                        replace H := Option.bind_eq_some_iff.mp H
                        obtain ⟨t192, A270, H⟩ := H
                        replace H : (if t172 < 0 then (phaetontop_TopMany.j2 k2 l0 t168 t172 true) else (if t172 ≥ (l0.length : Int) then (phaetontop_TopMany.j2 k2 l0 t168 t172 true) else (if t192 < 0 then (phaetontop_TopMany.j2 k2 l0 t168 t172 true) else (if t192 ≥ (l0.length : Int) then (phaetontop_TopMany.j2 k2 l0 t168 t172 true) else (if 0 ≤ t172 then (if t172 < (l0.length : Int) then ((frame_Rank.f ((rd_T26 l0 t172).f0) ((rd_T26 l0 t172).f1) ((rd_T26 l0 t172).f2) ((rd_T26 l0 t172).f3) ((rd_T26 l0 t172).f4)).bind fun t194 => (if 0 ≤ t192 then (if t192 < (y189.length : Int) then ((frame_Rank.f ((rd_T26 y189 t192).f0) ((rd_T26 y189 t192).f1) ((rd_T26 y189 t192).f2) ((rd_T26 y189 t192).f3) ((rd_T26 y189 t192).f4)).bind fun t198 => ((phaetonref01_Same.f k2 t194 t198).bind fun t201 => (phaetontop_TopMany.j2 k2 l0 t168 t172 (!t201)))) else (none)) else (none))) else (none)) else (none)))))) = some r := H
                        have A27 := Aside0.mk A270
                        clear A270
                        have HC28 := Aside0.mk H
                        clear H
                        try go_wp2_with (first | ((with_reducible refine gate_callee (f := 8) rfl ?_); refine goesL_ (some 45) rfl rfl Try.func8 (by kernel_rfl) rfl #[.slice A0 l0.length c0] rfl (by (try simp only [List.map_toArray, List.map_cons, List.map_nil]); first | done | rfl | (simp only [List.length_drop, List.length_take]; rfl)) ?_; (with_reducible refine (arb_Win.calls _ _ l0 t172 _ ?side1 ?side2 A18.out).mono ?_); (case side1 => repeat (first | exact (Kd.V_reads' HO_0.out).2.2 | (with_reducible refine Kd.C_alloc ?_ _) | (with_reducible refine Kd.C_drewN ?_ _) | (with_reducible refine Kd.C_drew ?_))); (case side2 => exact (Kd.V_reads' HO_0.out).2.1); rintro e w29 ⟨rfl, hb⟩; refine ⟨_, rfl, ?_⟩; have n0_ := Aside0.mk (Kd.V_below (by (with_reducible repeat (first | apply Kd.V_alloc | apply Kd.V_drewN | apply Kd.V_drew)); exact HO_0.out) hb); have n1_ := Aside0.mk (below_step (by repeat (first | (with_reducible first | exact HB.out | apply below_alloc | apply pw_below_drewN | apply below_drew1) | exact HB.out)) hb); clear HO_0; clear HB; have HO_0 := n0_; have HB := n1_; clear n0_ n1_; (try clear hb); (try clear hb2); (try clear hk); (try clear hi)))
                        have n0_ := Aside0.mk (Kd.V_drew HO_0.out)
                        have n1_ := Aside0.mk (below_drew1 HB.out)
                        clear HO_0
                        clear HB
                        have HO_0 := n0_
                        have HB := n1_
                        clear n0_ n1_
                        have q31 : ((ji20) : Int) ≤ ((l0.length : Int) : Int) := of_decide_eq_true (by first | (with_reducible assumption) | assumption)
                        obtain ⟨i031, hi031, _, hsz31, _⟩ := info_parts info26
                        have hroom31 : l0.length ≤ c0 := (Kd.V_reads' HO_0.out).2.1
                        have hC31 : Kd.F k26 _ _ A0 l0.length l0 := (Kd.V_at (base := w.heap.size) HO_0.out).2.2
                        have q031 : (0 : Int) ≤ ((ji20) : Int) := of_decide_eq_true (by first | (with_reducible assumption) | assumption)
                        have hcut31 := cut_from (P := Try.prog) 22 26 .i64 Try.underlying22 hi031 5 hsz31 A0 l0.length c0 (ji20) q031 q31
                        have hr31 := Kd.F_cut (m := ((ji20) : Int).toNat) (c := c0) hC31 (by omega) hroom31
                        obtain ⟨A31, hA31⟩ : ∃ A1, A1 = (if c0 = ((ji20) : Int).toNat then A0 else (A0 : Option Addr).map (·.add (((ji20) : Int).toNat * 5))) := ⟨_, rfl⟩
                        obtain ⟨c31, hc31⟩ : ∃ c1, c1 = c0 - ((ji20) : Int).toNat := ⟨_, rfl⟩
                        have hy31 : y176.length = l0.length - ((ji20) : Int).toNat := (by rw [Ny176.out, List.length_drop] <;> omega)
                        rw [show (l0).drop ((ji20) : Int).toNat = y176 from Ny176.out.symm] at hr31
                        replace hr31 : Kd.F k26 _ _ A31 y176.length y176 := (by rw [hA31]; exact hr31)
                        rw [← hy31, ← hA31, ← hc31] at hcut31
                        have HO180 := Aside0.mk (show Kd.V k26 26 _ w.heap.size _ (.slice A31 y176.length c31) y176 from Kd.V_mk (by rw [hy31, hc31]; exact Nat.sub_le_sub_right hroom31 _) hr31)
                        have HC180 := Aside0.mk (show y176.length ≤ c31 from by rw [hy31, hc31]; exact Nat.sub_le_sub_right hroom31 _)
                        clear hr31 hC31 hroom31 hi031 hsz31 hc31
                        have KY31 := Aside0.mk hy31
                        have KA31 := Aside0.mk hA31
                        clear hy31 hA31
                        replace q31 := eq_true q31
                        have q32 : ((ji20) : Int) ≤ ((l0.length : Int) : Int) := of_decide_eq_true (by first | (with_reducible assumption) | assumption)
                        obtain ⟨i032, hi032, _, hsz32, _⟩ := info_parts info26
                        have hroom32 : l0.length ≤ c0 := (Kd.V_reads' HO_0.out).2.1
                        have hC32 : Kd.F k26 _ _ A0 l0.length l0 := (Kd.V_at (base := w.heap.size) HO_0.out).2.2
                        have hcut32 := cut_to (P := Try.prog) 22 26 .i64 Try.underlying22 hi032 A0 l0.length c0 (ji20) (of_decide_eq_true (by first | (with_reducible assumption) | assumption)) q32 hroom32
                        have hr32 := Kd.F_take (m := ((ji20) : Int).toNat) hC32 (by omega)
                        have hy32 : y184.length = ((ji20) : Int).toNat := (by rw [Ny184.out, List.length_take]; omega)
                        rw [← Ny184.out] at hr32
                        rw [← hy32] at hcut32
                        have HO188 := Aside0.mk (show Kd.V k26 26 _ w.heap.size _ (.slice A0 y184.length c0) y184 from Kd.V_mk (by omega) hr32)
                        have HC188 := Aside0.mk (show y184.length ≤ c0 from by omega)
                        clear hr32 hC32 hroom32 hi032 hsz32
                        have KY32 := Aside0.mk hy32
                        clear hy32
                        replace q32 := eq_true q32
                        refine start_ (n := 10) (S := fun w' => True) (ds := []) #[false, false, false, false, false, false, false, false, false, false] (by kernel_rfl) rfl rfl trivial (fun hHeld => ?_); refine with_tabW phaetontop_TopMany.tab11 phaetontop_TopMany.bits11 (fun HT_ HW_ => ?_)
                        generalize w29.drew = w30 at HO_0 HB HO180 HO188 hHeld ⊢
                        refine pure_ (i := 1) (N := some 52) (v := ?_) (a' := ?_) #[false, true, false, false, false, false, false, false, false, false] rfl rfl (any_of HT_.out (by kernel_rfl)) (fun _ _ _ h => h) (Or.inl ⟨by rfl, ?_⟩) ?_ ?_
                        rotate_left
                        · intro w'
                          go_simp
                          with_reducible rfl
                        rotate_left
                        · simp only [Act.put, HW.LA, HW.LZ, HW.LS, i64_w, i32_w]
                          rfl
                        refine pure_ (i := 2) (N := some 53) (v := ?_) (a' := ?_) #[false, true, true, false, false, false, false, false, false, false] rfl rfl (any_of HT_.out (by kernel_rfl)) (fun _ _ _ h => h) (Or.inl ⟨by rfl, ?_⟩) ?_ ?_
                        rotate_left
                        · intro w'
                          go_simp
                          with_reducible rfl
                        rotate_left
                        · simp only [Act.put, HW.LA, HW.LZ, HW.LS, i64_w, i32_w]
                          rfl
                        refine pure_ (i := 3) (N := some 54) (v := ?_) (a' := ?_) #[false, true, true, true, false, false, false, false, false, false] rfl rfl (any_of HT_.out (by kernel_rfl)) (fun _ _ _ h => h) (Or.inl ⟨by rfl, ?_⟩) ?_ ?_
                        rotate_left
                        · intro w'
                          go_simp
                          with_reducible rfl
                        rotate_left
                        · simp only [Act.put, HW.LA, HW.LZ, HW.LS, i64_w, i32_w]
                          rfl
                        refine pure_ (i := 5) (N := some 56) (v := ?_) (a' := ?_) #[false, true, true, true, false, true, false, false, false, false] rfl rfl (any_of HT_.out (by kernel_rfl)) (fun _ _ _ h => h) (Or.inl ⟨by rfl, ?_⟩) ?_ ?_
                        rotate_left
                        · intro w'
                          go_simp
                          with_reducible rfl
                        rotate_left
                        · simp only [Act.put, HW.LA, HW.LZ, HW.LS, i64_w, i32_w]
                          rfl
                        refine pure_ (i := 6) (N := some 57) (v := ?_) (a' := ?_) #[false, true, true, true, false, true, true, false, false, false] rfl rfl (any_of HT_.out (by kernel_rfl)) (fun _ _ _ h => h) (Or.inl ⟨by rfl, ?_⟩) ?_ ?_
                        rotate_left
                        · intro w'
                          go_simp
                          with_reducible rfl
                        rotate_left
                        · simp only [Act.put, HW.LA, HW.LZ, HW.LS, i64_w, i32_w]
                          rfl
                        refine pure_ (i := 7) (N := some 58) (v := ?_) (a' := ?_) #[false, true, true, true, false, true, true, true, false, false] rfl rfl (any_of HT_.out (by kernel_rfl)) (fun _ _ _ h => h) (Or.inl ⟨by rfl, ?_⟩) ?_ ?_
                        rotate_left
                        · intro w'
                          go_simp
                          with_reducible rfl
                        rotate_left
                        · simp only [Act.put, HW.LA, HW.LZ, HW.LS, i64_w, i32_w]
                          rfl
                        refine one_ (i := 0) (N := some 51) #[true, true, true, true, false, true, true, true, false, false] rfl rfl (one_of HT_.out (by kernel_rfl)) (by decide) (fun K hK => ?_)
                        refine Kd.N_lit_step k26 _ 26 ?hg (N' := 51) ?hd (xs := ([] : List (S26))) (inner := []) (ok := (fun k_ => (P0_ k_ ∨ w.heap.size ≤ k_))) (okp := (fun k_ => (P0_ k_ ∨ w.heap.size ≤ k_))) ?hr ?hp (fun _ hk => hk) ((show ∀ k_, w30.heap.size ≤ k_ → (fun k_ => (P0_ k_ ∨ w.heap.size ≤ k_)) k_ from fun k_ hk => (.inr (Nat.le_trans (below_size (by repeat (first | (with_reducible first | exact HB.out | apply below_alloc | apply pw_below_drewN | apply below_drew1) | exact HB.out))) hk))) _ (Nat.le_refl _)) (Below.refl _ _) (Nat.le_refl _) (by simp) ?_; (case hd => rfl); (case hg => rfl); (case hr => first | (go_simp; done) | (go_simp; rfl)); (case hp => exact (Reps.none _ _))
                        intro v174 w33 ho34 hb hg_ hnew_
                        clear hg_ hnew_
                        (first | rw [← Ny173.out] at ho34 | (simp only [Int.reduceToNat] at ho34; rw [← Ny173.out] at ho34))
                        have n0_ := Aside0.mk (Kd.V_elder' (by (with_reducible repeat (first | apply Kd.V_alloc | apply Kd.V_drewN | apply Kd.V_drew)); exact HO_0.out) (Kd.N_base ho34) hb)
                        have n1_ := Aside0.mk (Kd.V_elder' (by (with_reducible repeat (first | apply Kd.V_alloc | apply Kd.V_drewN | apply Kd.V_drew)); exact HO180.out) (Kd.N_base ho34) hb)
                        have n2_ := Aside0.mk (Kd.V_elder' (by (with_reducible repeat (first | apply Kd.V_alloc | apply Kd.V_drewN | apply Kd.V_drew)); exact HO188.out) (Kd.N_base ho34) hb)
                        have n3_ := Aside0.mk (Kd.N_lower ho34 (below_size (by repeat (first | (with_reducible first | exact HB.out | apply below_alloc | apply pw_below_drewN | apply below_drew1) | exact HB.out))))
                        have n4_ := Aside0.mk (below_step (by repeat (first | (with_reducible first | exact HB.out | apply below_alloc | apply pw_below_drewN | apply below_drew1) | exact HB.out)) hb)
                        clear HO_0
                        clear HO180
                        clear HO188
                        clear HB
                        have HO_0 := n0_
                        have HO180 := n1_
                        have HO188 := n2_
                        have HO175 := n3_
                        have HB := n4_
                        clear n0_ n1_ n2_ n3_ n4_
                        clear hb ho34
                        refine hK.out _ _ trivial (fun hHeld => ?_)
                        clear hK K
                        refine norm_ (a' := ?_) ?_ ?_
                        rotate_left
                        · show Act.put _ (some 51) _ = _
                          simp only [Act.put, HW.LA, HW.LZ, HW.LS, i64_w, i32_w]
                          rfl
                        refine one_ (i := 4) (N := some 55) (HW.tf 8 2) rfl rfl (one_of HT_.out (by kernel_rfl)) (by decide) (fun K hK => ?_)
                        refine Kd.N_append_rows_step k26 (w0 := w) w.heap.size (by rfl) (.tmp 51) (.tmp 54) 22 26 (.agg #[(.bool false), (.int .i64 0), (.bool false), (.int .i64 0), (.slice none 0 0)]) 56 rfl Try.underlying22 info26 rfl (by decide) (by omega) v174 y173 y176 _ _ _ (fun k_ => (P0_ k_ ∨ w.heap.size ≤ k_)) (fun k_ => ((fun k_ => (P0_ k_ ∨ w.heap.size ≤ k_))) k_ ∧ some k_ ≠ (v174 : Value).ownBlock) rfl rfl ?aO ?aR (fun _ hk => hk) ?aF ?aB ?aS ?aL ?_
                        (case aR => exact (by skip; exact Kd.V_F (Kd.V_mono (ok' := (fun k_ => ((fun k_ => (P0_ k_ ∨ w.heap.size ≤ k_))) k_ ∧ some k_ ≠ (v174 : Value).ownBlock)) (HO180.out) (fun k_ hk => ⟨hk.1, hk.2⟩))))
                        (case aB => exact (by repeat (first | (with_reducible first | exact HB.out | apply below_alloc | apply pw_below_drewN | apply below_drew1) | exact HB.out)))
                        (case aF => exact (fun k_ hk => (.inr (Nat.le_trans (below_size (by repeat (first | (with_reducible first | exact HB.out | apply below_alloc | apply pw_below_drewN | apply below_drew1) | exact HB.out))) hk))))
                        (case aO => exact (by (with_reducible repeat (first | apply Kd.N_alloc | apply Kd.N_drewN | apply Kd.N_drew)); exact HO175.out))
                        (case aS => exact (below_size (by repeat (first | (with_reducible first | exact HB.out | apply below_alloc | apply pw_below_drewN | apply below_drew1) | exact HB.out))))
                        (case aL => have := LMc23.out; omega)
                        intro v182 w35 ho hb hg hat
                        rw [← Ny181.out] at ho
                        have n0_ := Aside0.mk (Kd.V_afterv (ok := (fun k_ => (P0_ k_ ∨ w.heap.size ≤ k_))) (by (with_reducible repeat (first | apply Kd.V_alloc | apply Kd.V_drewN | apply Kd.V_drew)); exact HO_0.out) hg hat)
                        have n1_ := Aside0.mk (Kd.V_afterv (ok := (fun k_ => (P0_ k_ ∨ w.heap.size ≤ k_))) (by (with_reducible repeat (first | apply Kd.V_alloc | apply Kd.V_drewN | apply Kd.V_drew)); exact HO180.out) hg hat)
                        have n2_ := Aside0.mk (Kd.V_afterv (ok := (fun k_ => (P0_ k_ ∨ w.heap.size ≤ k_))) (by (with_reducible repeat (first | apply Kd.V_alloc | apply Kd.V_drewN | apply Kd.V_drew)); exact HO188.out) hg hat)
                        have n3_ := Aside0.mk (hb)
                        have n4_ := Aside0.mk (ho)
                        clear HO_0
                        clear HO180
                        clear HO188
                        clear HB
                        clear HO175
                        have HO_0 := n0_
                        have HO180 := n1_
                        have HO188 := n2_
                        have HB := n3_
                        have HO183 := n4_
                        clear n0_ n1_ n2_ n3_ n4_
                        clear ho hb hg hat
                        refine hK.out _ _ trivial (fun hHeld => ?_)
                        clear hK K
                        refine norm_ (a' := ?_) ?_ ?_
                        rotate_left
                        · show Act.put _ (some 55) _ = _
                          simp only [Act.put, HW.LA, HW.LZ, HW.LS, i64_w, i32_w]
                          rfl
                        refine one_ (i := 8) (N := some 59) (HW.tf 9 1) rfl rfl (one_of HT_.out (by kernel_rfl)) (by decide) (fun K hK => ?_)
                        refine Kd.N_append_rows_step k26 (w0 := w) w.heap.size (by rfl) (.tmp 55) (.tmp 58) 22 26 (.agg #[(.bool false), (.int .i64 0), (.bool false), (.int .i64 0), (.slice none 0 0)]) 56 rfl Try.underlying22 info26 rfl (by decide) (by omega) v182 y181 y184 _ _ _ (fun k_ => (P0_ k_ ∨ w.heap.size ≤ k_)) (fun k_ => ((fun k_ => (P0_ k_ ∨ w.heap.size ≤ k_))) k_ ∧ some k_ ≠ (v182 : Value).ownBlock) rfl rfl ?aO ?aR (fun _ hk => hk) ?aF ?aB ?aS ?aL ?_
                        (case aR => exact (by skip; exact Kd.V_F (Kd.V_mono (ok' := (fun k_ => ((fun k_ => (P0_ k_ ∨ w.heap.size ≤ k_))) k_ ∧ some k_ ≠ (v182 : Value).ownBlock)) (HO188.out) (fun k_ hk => ⟨hk.1, hk.2⟩))))
                        (case aB => exact (by repeat (first | (with_reducible first | exact HB.out | apply below_alloc | apply pw_below_drewN | apply below_drew1) | exact HB.out)))
                        (case aF => exact (fun k_ hk => (.inr (Nat.le_trans (below_size (by repeat (first | (with_reducible first | exact HB.out | apply below_alloc | apply pw_below_drewN | apply below_drew1) | exact HB.out))) hk))))
                        (case aO => exact (by (with_reducible repeat (first | apply Kd.N_alloc | apply Kd.N_drewN | apply Kd.N_drew)); exact HO183.out))
                        (case aS => exact (below_size (by repeat (first | (with_reducible first | exact HB.out | apply below_alloc | apply pw_below_drewN | apply below_drew1) | exact HB.out))))
                        (case aL => have := LMc26.out; omega)
                        intro v190 w36 ho hb hg hat
                        rw [← Ny189.out] at ho
                        have n0_ := Aside0.mk (Kd.V_afterv (ok := (fun k_ => (P0_ k_ ∨ w.heap.size ≤ k_))) (by (with_reducible repeat (first | apply Kd.V_alloc | apply Kd.V_drewN | apply Kd.V_drew)); exact HO_0.out) hg hat)
                        have n1_ := Aside0.mk (Kd.V_afterv (ok := (fun k_ => (P0_ k_ ∨ w.heap.size ≤ k_))) (by (with_reducible repeat (first | apply Kd.V_alloc | apply Kd.V_drewN | apply Kd.V_drew)); exact HO180.out) hg hat)
                        have n2_ := Aside0.mk (Kd.V_afterv (ok := (fun k_ => (P0_ k_ ∨ w.heap.size ≤ k_))) (by (with_reducible repeat (first | apply Kd.V_alloc | apply Kd.V_drewN | apply Kd.V_drew)); exact HO188.out) hg hat)
                        have n3_ := Aside0.mk (hb)
                        have n4_ := Aside0.mk (ho)
                        clear HO_0
                        clear HO180
                        clear HO188
                        clear HB
                        clear HO183
                        have HO_0 := n0_
                        have HO180 := n1_
                        have HO188 := n2_
                        have HB := n3_
                        have HO191 := n4_
                        clear n0_ n1_ n2_ n3_ n4_
                        clear ho hb hg hat
                        refine hK.out _ _ trivial (fun hHeld => ?_)
                        clear hK K
                        refine norm_ (a' := ?_) ?_ ?_
                        rotate_left
                        · show Act.put _ (some 59) _ = _
                          simp only [Act.put, HW.LA, HW.LZ, HW.LS, i64_w, i32_w]
                          rfl
                        refine pure_ (i := 9) (N := some 9) (v := ?_) (a' := ?_) (HW.tf 10 0) rfl rfl (any_of HT_.out (by kernel_rfl)) (fun _ _ _ h => h) (Or.inl ⟨by rfl, ?_⟩) ?_ ?_
                        rotate_left
                        · intro w'
                          go_simp
                          with_reducible rfl
                        rotate_left
                        · simp only [Act.put, HW.LA, HW.LZ, HW.LS, i64_w, i32_w]
                          rfl
                        refine done_ (done_of HT_.out (by kernel_rfl)) ?_
                        obtain ⟨Ao37, co37, eo37⟩ := Kd.N_slice HO191.out
                        subst eo37
                        go_upto_region 13 with (first | ((with_reducible refine gate_callee (f := 8) rfl ?_); refine goesL_ (some 61) rfl rfl Try.func8 (by kernel_rfl) rfl #[.slice Ao37 y189.length co37] rfl (by (try simp only [List.map_toArray, List.map_cons, List.map_nil]); first | done | rfl | (simp only [List.length_drop, List.length_take]; rfl)) ?_; (with_reducible refine (arb_Win.calls _ _ y189 t192 _ ?side1 ?side2 A27.out).mono ?_); (case side1 => repeat (first | exact (Kd.N_reads' HO191.out).2.2 | (with_reducible refine Kd.C_alloc ?_ _) | (with_reducible refine Kd.C_drewN ?_ _) | (with_reducible refine Kd.C_drew ?_))); (case side2 => exact (Kd.N_reads' HO191.out).2.1); rintro e w38 ⟨rfl, hb⟩; refine ⟨_, rfl, ?_⟩; have n0_ := Aside0.mk (Kd.V_below (by (with_reducible repeat (first | apply Kd.V_alloc | apply Kd.V_drewN | apply Kd.V_drew)); exact HO_0.out) hb); have n1_ := Aside0.mk (Kd.V_below (by (with_reducible repeat (first | apply Kd.V_alloc | apply Kd.V_drewN | apply Kd.V_drew)); exact HO180.out) hb); have n2_ := Aside0.mk (Kd.V_below (by (with_reducible repeat (first | apply Kd.V_alloc | apply Kd.V_drewN | apply Kd.V_drew)); exact HO188.out) hb); have n3_ := Aside0.mk (Kd.N_below (by (with_reducible repeat (first | apply Kd.N_alloc | apply Kd.N_drewN | apply Kd.N_drew)); exact HO191.out) hb); have n4_ := Aside0.mk (below_step (by repeat (first | (with_reducible first | exact HB.out | apply below_alloc | apply pw_below_drewN | apply below_drew1) | exact HB.out)) hb); clear HO_0; clear HO180; clear HO188; clear HO191; clear HB; have HO_0 := n0_; have HO180 := n1_; have HO188 := n2_; have HO191 := n3_; have HB := n4_; clear n0_ n1_ n2_ n3_ n4_; (try clear hb); (try clear hb2); (try clear hk); (try clear hi)))
                        (try simp only [Act.put, List.setIfInBounds_toArray, List.set_cons_zero, List.set_cons_succ])
                        go_cut [93] (fun v93 wc => ∃ (kq : Nat) (x93_27 : Bool), v93 = .bool x93_27 ∧ Aside0 (phaetontop_TopMany.j2 kq l0 t168 t172 x93_27 = some r) ∧ Aside0 (kq ≤ k2) ∧ Aside0 (Kd.V k26 26 wc w.heap.size (fun k_ => (P0_ k_ ∨ w.heap.size ≤ k_)) (.slice A0 l0.length c0) l0) ∧ Aside0 (Below w.heap.size w wc))
                        case first => as_aux_lemma =>
                          have H := HC28.out
                          clear HC28
                          by_cases c39 : t172 < 0
                          · rw [if_pos c39] at H
                            have c39b0 : decide (t172 < 0) = true := decide_eq_true c39
                            clear c39
                            (first | rw [c39b0] | (simp only [i64_w, i32_w]; rw [c39b0]) | skip)
                            have H' := Aside0.mk H
                            clear H
                            try go_wp2
                            have n0_ := Aside0.mk (Kd.V_drew HO_0.out)
                            have n1_ := Aside0.mk (Kd.V_drew HO180.out)
                            have n2_ := Aside0.mk (Kd.V_drew HO188.out)
                            have n3_ := Aside0.mk (Kd.N_drew HO191.out)
                            have n4_ := Aside0.mk (below_drew1 HB.out)
                            clear HO_0
                            clear HO180
                            clear HO188
                            clear HO191
                            clear HB
                            have HO_0 := n0_
                            have HO180 := n1_
                            have HO188 := n2_
                            have HO191 := n3_
                            have HB := n4_
                            clear n0_ n1_ n2_ n3_ n4_
                            refine start_ (n := 32) (S := fun w' => True) (ds := []) #[false, false, false, false, false, false, false, false, false, false, false, false, false, false, false, false, false, false, false, false, false, false, false, false, false, false, false, false, false, false, false, false] (by kernel_rfl) rfl rfl trivial (fun hHeld => ?_); refine with_tabW phaetontop_TopMany.tab13 phaetontop_TopMany.bits13 (fun HT_ HW_ => ?_)
                            generalize w38.drew = w40 at HO_0 HO180 HO188 HO191 HB hHeld ⊢
                            refine pure_ (i := 0) (N := some 62) (v := ?_) (a' := ?_) (HW.tf 1 31) rfl rfl (any_of HT_.out (by kernel_rfl)) (fun _ _ _ h => h) (Or.inl ⟨by rfl, ?_⟩) ?_ ?_
                            rotate_left
                            · intro w'
                              go_simp
                              with_reducible rfl
                            rotate_left
                            · simp only [Act.put, HW.LA, HW.LZ, HW.LS, i64_w, i32_w]
                              rfl
                            refine pure_ (i := 1) (N := some 63) (v := ?_) (a' := ?_) (HW.tf 2 30) rfl rfl (any_of HT_.out (by kernel_rfl)) (fun _ _ _ h => h) (Or.inl ⟨by rfl, ?_⟩) ?_ ?_
                            rotate_left
                            · intro w'
                              go_simp
                              with_reducible rfl
                            rotate_left
                            · simp only [Act.put, HW.LA, HW.LZ, HW.LS, i64_w, i32_w]
                              rfl
                            refine pure_ (i := 2) (N := some 64) (v := ?_) (a' := ?_) (HW.tf 3 29) rfl rfl (any_of HT_.out (by kernel_rfl)) (fun _ _ _ h => h) (Or.inl ⟨by rfl, ?_⟩) ?_ ?_
                            rotate_left
                            · intro w'
                              go_simp
                              with_reducible rfl
                            rotate_left
                            · simp only [Act.put, HW.LA, HW.LZ, HW.LS, i64_w, i32_w]
                              rfl
                            refine pure_ (i := 3) (N := some 65) (v := undef) (a' := ?_) (HW.tf 4 28) rfl rfl (any_of HT_.out (by kernel_rfl)) (fun _ _ _ h => h) (Or.inr ⟨by rfl, rfl⟩) ?_ ?_
                            rotate_left
                            · simp only [Act.put, HW.LA, HW.LZ, HW.LS, i64_w, i32_w]
                              rfl
                            refine pure_ (i := 4) (N := some 66) (v := undef) (a' := ?_) (HW.tf 5 27) rfl rfl (any_of HT_.out (by kernel_rfl)) (fun _ _ _ h => h) (Or.inr ⟨by rfl, rfl⟩) ?_ ?_
                            rotate_left
                            · simp only [Act.put, HW.LA, HW.LZ, HW.LS, i64_w, i32_w]
                              rfl
                            refine pure_ (i := 5) (N := some 67) (v := undef) (a' := ?_) (HW.tf 6 26) rfl rfl (any_of HT_.out (by kernel_rfl)) (fun _ _ _ h => h) (Or.inr ⟨by rfl, rfl⟩) ?_ ?_
                            rotate_left
                            · simp only [Act.put, HW.LA, HW.LZ, HW.LS, i64_w, i32_w]
                              rfl
                            refine pure_ (i := 6) (N := some 68) (v := undef) (a' := ?_) (HW.tf 7 25) rfl rfl (any_of HT_.out (by kernel_rfl)) (fun _ _ _ h => h) (Or.inr ⟨by rfl, rfl⟩) ?_ ?_
                            rotate_left
                            · simp only [Act.put, HW.LA, HW.LZ, HW.LS, i64_w, i32_w]
                              rfl
                            refine pure_ (i := 7) (N := some 69) (v := ?_) (a' := ?_) (HW.tf 8 24) rfl rfl (any_of HT_.out (by kernel_rfl)) (fun _ _ _ h => h) (Or.inl ⟨by rfl, ?_⟩) ?_ ?_
                            rotate_left
                            · intro w'
                              go_simp
                              with_reducible rfl
                            rotate_left
                            · simp only [Act.put, HW.LA, HW.LZ, HW.LS, i64_w, i32_w]
                              rfl
                            refine pure_ (i := 8) (N := some 70) (v := ?_) (a' := ?_) (HW.tf 9 23) rfl rfl (any_of HT_.out (by kernel_rfl)) (fun _ _ _ h => h) (Or.inl ⟨by rfl, ?_⟩) ?_ ?_
                            rotate_left
                            · intro w'
                              go_simp
                              with_reducible rfl
                            rotate_left
                            · simp only [Act.put, HW.LA, HW.LZ, HW.LS, i64_w, i32_w]
                              rfl
                            refine pure_ (i := 9) (N := some 71) (v := undef) (a' := ?_) (HW.tf 10 22) rfl rfl (any_of HT_.out (by kernel_rfl)) (fun _ _ _ h => h) (Or.inr ⟨by rfl, rfl⟩) ?_ ?_
                            rotate_left
                            · simp only [Act.put, HW.LA, HW.LZ, HW.LS, i64_w, i32_w]
                              rfl
                            refine pure_ (i := 10) (N := some 72) (v := undef) (a' := ?_) (HW.tf 11 21) rfl rfl (any_of HT_.out (by kernel_rfl)) (fun _ _ _ h => h) (Or.inr ⟨by rfl, rfl⟩) ?_ ?_
                            rotate_left
                            · simp only [Act.put, HW.LA, HW.LZ, HW.LS, i64_w, i32_w]
                              rfl
                            refine pure_ (i := 11) (N := some 73) (v := ?_) (a' := ?_) (HW.tf 12 20) rfl rfl (any_of HT_.out (by kernel_rfl)) (fun _ _ _ h => h) (Or.inl ⟨by rfl, ?_⟩) ?_ ?_
                            rotate_left
                            · intro w'
                              go_simp
                              with_reducible rfl
                            rotate_left
                            · simp only [Act.put, HW.LA, HW.LZ, HW.LS, i64_w, i32_w]
                              rfl
                            refine pure_ (i := 12) (N := some 74) (v := ?_) (a' := ?_) (HW.tf 13 19) rfl rfl (any_of HT_.out (by kernel_rfl)) (fun _ _ _ h => h) (Or.inl ⟨by rfl, ?_⟩) ?_ ?_
                            rotate_left
                            · intro w'
                              go_simp
                              with_reducible rfl
                            rotate_left
                            · simp only [Act.put, HW.LA, HW.LZ, HW.LS, i64_w, i32_w]
                              rfl
                            refine pure_ (i := 13) (N := some 75) (v := undef) (a' := ?_) (HW.tf 14 18) rfl rfl (any_of HT_.out (by kernel_rfl)) (fun _ _ _ h => h) (Or.inr ⟨by rfl, rfl⟩) ?_ ?_
                            rotate_left
                            · simp only [Act.put, HW.LA, HW.LZ, HW.LS, i64_w, i32_w]
                              rfl
                            refine pure_ (i := 14) (N := some 76) (v := undef) (a' := ?_) (HW.tf 15 17) rfl rfl (any_of HT_.out (by kernel_rfl)) (fun _ _ _ h => h) (Or.inr ⟨by rfl, rfl⟩) ?_ ?_
                            rotate_left
                            · simp only [Act.put, HW.LA, HW.LZ, HW.LS, i64_w, i32_w]
                              rfl
                            refine pure_ (i := 15) (N := some 77) (v := undef) (a' := ?_) (HW.tf 16 16) rfl rfl (any_of HT_.out (by kernel_rfl)) (fun _ _ _ h => h) (Or.inr ⟨by rfl, rfl⟩) ?_ ?_
                            rotate_left
                            · simp only [Act.put, HW.LA, HW.LZ, HW.LS, i64_w, i32_w]
                              rfl
                            refine pure_ (i := 16) (N := some 78) (v := undef) (a' := ?_) (HW.tf 17 15) rfl rfl (any_of HT_.out (by kernel_rfl)) (fun _ _ _ h => h) (Or.inr ⟨by rfl, rfl⟩) ?_ ?_
                            rotate_left
                            · simp only [Act.put, HW.LA, HW.LZ, HW.LS, i64_w, i32_w]
                              rfl
                            refine pure_ (i := 17) (N := some 79) (v := ?_) (a' := ?_) (HW.tf 18 14) rfl rfl (any_of HT_.out (by kernel_rfl)) (fun _ _ _ h => h) (Or.inl ⟨by rfl, ?_⟩) ?_ ?_
                            rotate_left
                            · intro w'
                              go_simp
                              with_reducible rfl
                            rotate_left
                            · simp only [Act.put, HW.LA, HW.LZ, HW.LS, i64_w, i32_w]
                              rfl
                            refine pure_ (i := 18) (N := some 80) (v := ?_) (a' := ?_) (HW.tf 19 13) rfl rfl (any_of HT_.out (by kernel_rfl)) (fun _ _ _ h => h) (Or.inl ⟨by rfl, ?_⟩) ?_ ?_
                            rotate_left
                            · intro w'
                              go_simp
                              with_reducible rfl
                            rotate_left
                            · simp only [Act.put, HW.LA, HW.LZ, HW.LS, i64_w, i32_w]
                              rfl
                            refine pure_ (i := 19) (N := some 81) (v := undef) (a' := ?_) (HW.tf 20 12) rfl rfl (any_of HT_.out (by kernel_rfl)) (fun _ _ _ h => h) (Or.inr ⟨by rfl, rfl⟩) ?_ ?_
                            rotate_left
                            · simp only [Act.put, HW.LA, HW.LZ, HW.LS, i64_w, i32_w]
                              rfl
                            refine pure_ (i := 20) (N := some 82) (v := undef) (a' := ?_) (HW.tf 21 11) rfl rfl (any_of HT_.out (by kernel_rfl)) (fun _ _ _ h => h) (Or.inr ⟨by rfl, rfl⟩) ?_ ?_
                            rotate_left
                            · simp only [Act.put, HW.LA, HW.LZ, HW.LS, i64_w, i32_w]
                              rfl
                            refine pure_ (i := 21) (N := some 83) (v := undef) (a' := ?_) (HW.tf 22 10) rfl rfl (any_of HT_.out (by kernel_rfl)) (fun _ _ _ h => h) (Or.inr ⟨by rfl, rfl⟩) ?_ ?_
                            rotate_left
                            · simp only [Act.put, HW.LA, HW.LZ, HW.LS, i64_w, i32_w]
                              rfl
                            refine pure_ (i := 22) (N := some 84) (v := undef) (a' := ?_) (HW.tf 23 9) rfl rfl (any_of HT_.out (by kernel_rfl)) (fun _ _ _ h => h) (Or.inr ⟨by rfl, rfl⟩) ?_ ?_
                            rotate_left
                            · simp only [Act.put, HW.LA, HW.LZ, HW.LS, i64_w, i32_w]
                              rfl
                            refine pure_ (i := 23) (N := some 85) (v := undef) (a' := ?_) (HW.tf 24 8) rfl rfl (any_of HT_.out (by kernel_rfl)) (fun _ _ _ h => h) (Or.inr ⟨by rfl, rfl⟩) ?_ ?_
                            rotate_left
                            · simp only [Act.put, HW.LA, HW.LZ, HW.LS, i64_w, i32_w]
                              rfl
                            refine pure_ (i := 24) (N := some 86) (v := undef) (a' := ?_) (HW.tf 25 7) rfl rfl (any_of HT_.out (by kernel_rfl)) (fun _ _ _ h => h) (Or.inr ⟨by rfl, rfl⟩) ?_ ?_
                            rotate_left
                            · simp only [Act.put, HW.LA, HW.LZ, HW.LS, i64_w, i32_w]
                              rfl
                            refine pure_ (i := 25) (N := some 87) (v := undef) (a' := ?_) (HW.tf 26 6) rfl rfl (any_of HT_.out (by kernel_rfl)) (fun _ _ _ h => h) (Or.inr ⟨by rfl, rfl⟩) ?_ ?_
                            rotate_left
                            · simp only [Act.put, HW.LA, HW.LZ, HW.LS, i64_w, i32_w]
                              rfl
                            refine pure_ (i := 26) (N := some 88) (v := undef) (a' := ?_) (HW.tf 27 5) rfl rfl (any_of HT_.out (by kernel_rfl)) (fun _ _ _ h => h) (Or.inr ⟨by rfl, rfl⟩) ?_ ?_
                            rotate_left
                            · simp only [Act.put, HW.LA, HW.LZ, HW.LS, i64_w, i32_w]
                              rfl
                            refine pure_ (i := 27) (N := some 89) (v := undef) (a' := ?_) (HW.tf 28 4) rfl rfl (any_of HT_.out (by kernel_rfl)) (fun _ _ _ h => h) (Or.inr ⟨by rfl, rfl⟩) ?_ ?_
                            rotate_left
                            · simp only [Act.put, HW.LA, HW.LZ, HW.LS, i64_w, i32_w]
                              rfl
                            refine pure_ (i := 28) (N := some 90) (v := undef) (a' := ?_) (HW.tf 29 3) rfl rfl (any_of HT_.out (by kernel_rfl)) (fun _ _ _ h => h) (Or.inr ⟨by rfl, rfl⟩) ?_ ?_
                            rotate_left
                            · simp only [Act.put, HW.LA, HW.LZ, HW.LS, i64_w, i32_w]
                              rfl
                            refine pure_ (i := 29) (N := some 91) (v := undef) (a' := ?_) (HW.tf 30 2) rfl rfl (any_of HT_.out (by kernel_rfl)) (fun _ _ _ h => h) (Or.inr ⟨by rfl, rfl⟩) ?_ ?_
                            rotate_left
                            · simp only [Act.put, HW.LA, HW.LZ, HW.LS, i64_w, i32_w]
                              rfl
                            refine pure_ (i := 30) (N := some 92) (v := undef) (a' := ?_) (HW.tf 31 1) rfl rfl (any_of HT_.out (by kernel_rfl)) (fun _ _ _ h => h) (Or.inr ⟨by rfl, rfl⟩) ?_ ?_
                            rotate_left
                            · simp only [Act.put, HW.LA, HW.LZ, HW.LS, i64_w, i32_w]
                              rfl
                            refine pure_ (i := 31) (N := some 93) (v := ?_) (a' := ?_) (HW.tf 32 0) rfl rfl (any_of HT_.out (by kernel_rfl)) (fun _ _ _ h => h) (Or.inl ⟨by rfl, ?_⟩) ?_ ?_
                            rotate_left
                            · intro w'
                              go_simp
                              with_reducible rfl
                            rotate_left
                            · simp only [Act.put, HW.LA, HW.LZ, HW.LS, i64_w, i32_w]
                              rfl
                            refine done_ (done_of HT_.out (by kernel_rfl)) ?_
                            try go_wp2
                            go_meet
                            case rel => exact ⟨_, (true), (by first | rfl | (simp; done) | (simp [*]; done)), H', ⟨by have := HJ3.out; have := HK2.out; first | omega | exact Nat.le_refl _⟩, ⟨by (with_reducible repeat (first | apply Kd.V_alloc | apply Kd.V_drewN | apply Kd.V_drew)); exact Kd.V_mono HO_0.out (fun _ hk => hk.1)⟩, ⟨by repeat (first | (with_reducible first | exact HB.out | apply below_alloc | apply pw_below_drewN | apply below_drew1) | exact HB.out)⟩⟩
                          · rw [if_neg c39] at H
                            have c39b0 : decide (t172 < 0) = false := decide_eq_false c39
                            clear c39
                            (first | rw [c39b0] | (simp only [i64_w, i32_w]; rw [c39b0]) | skip)
                            by_cases c41 : t172 ≥ (l0.length : Int)
                            · rw [if_pos c41] at H
                              have c41b0 : decide ((l0.length : Int) ≤ t172) = true := decide_eq_true c41
                              clear c41
                              have H' := Aside0.mk H
                              clear H
                              try go_wp2
                              have n0_ := Aside0.mk (Kd.V_drew HO_0.out)
                              have n1_ := Aside0.mk (Kd.V_drew HO180.out)
                              have n2_ := Aside0.mk (Kd.V_drew HO188.out)
                              have n3_ := Aside0.mk (Kd.N_drew HO191.out)
                              have n4_ := Aside0.mk (below_drew1 HB.out)
                              clear HO_0
                              clear HO180
                              clear HO188
                              clear HO191
                              clear HB
                              have HO_0 := n0_
                              have HO180 := n1_
                              have HO188 := n2_
                              have HO191 := n3_
                              have HB := n4_
                              clear n0_ n1_ n2_ n3_ n4_
                              refine start_ (n := 32) (S := fun w' => True) (ds := []) #[false, false, false, false, false, false, false, false, false, false, false, false, false, false, false, false, false, false, false, false, false, false, false, false, false, false, false, false, false, false, false, false] (by kernel_rfl) rfl rfl trivial (fun hHeld => ?_); refine with_tabW phaetontop_TopMany.tab13 phaetontop_TopMany.bits13 (fun HT_ HW_ => ?_)
                              generalize w38.drew = w42 at HO_0 HO180 HO188 HO191 HB hHeld ⊢
                              refine pure_ (i := 0) (N := some 62) (v := ?_) (a' := ?_) (HW.tf 1 31) rfl rfl (any_of HT_.out (by kernel_rfl)) (fun _ _ _ h => h) (Or.inl ⟨by rfl, ?_⟩) ?_ ?_
                              rotate_left
                              · intro w'
                                go_simp
                                with_reducible rfl
                              rotate_left
                              · simp only [Act.put, HW.LA, HW.LZ, HW.LS, i64_w, i32_w]
                                rfl
                              refine pure_ (i := 1) (N := some 63) (v := ?_) (a' := ?_) (HW.tf 2 30) rfl rfl (any_of HT_.out (by kernel_rfl)) (fun _ _ _ h => h) (Or.inl ⟨by rfl, ?_⟩) ?_ ?_
                              rotate_left
                              · intro w'
                                go_simp
                                with_reducible rfl
                              rotate_left
                              · simp only [Act.put, HW.LA, HW.LZ, HW.LS, i64_w, i32_w]
                                rfl
                              refine pure_ (i := 2) (N := some 64) (v := ?_) (a' := ?_) (HW.tf 3 29) rfl rfl (any_of HT_.out (by kernel_rfl)) (fun _ _ _ h => h) (Or.inl ⟨by rfl, ?_⟩) ?_ ?_
                              rotate_left
                              · intro w'
                                go_simp
                                with_reducible rfl
                              rotate_left
                              · simp only [Act.put, HW.LA, HW.LZ, HW.LS, i64_w, i32_w]
                                rfl
                              refine pure_ (i := 3) (N := some 65) (v := ?_) (a' := ?_) (HW.tf 4 28) rfl rfl (any_of HT_.out (by kernel_rfl)) (fun _ _ _ h => h) (Or.inl ⟨by rfl, ?_⟩) ?_ ?_
                              rotate_left
                              · intro w'
                                go_simp
                                with_reducible rfl
                              rotate_left
                              · simp only [Act.put, HW.LA, HW.LZ, HW.LS, i64_w, i32_w]
                                rfl
                              refine pure_ (i := 4) (N := some 66) (v := ?_) (a' := ?_) (HW.tf 5 27) rfl rfl (any_of HT_.out (by kernel_rfl)) (fun _ _ _ h => h) (Or.inl ⟨by rfl, ?_⟩) ?_ ?_
                              rotate_left
                              · intro w'
                                go_simp
                                with_reducible rfl
                              rotate_left
                              · simp only [Act.put, HW.LA, HW.LZ, HW.LS, i64_w, i32_w]
                                rfl
                              refine pure_ (i := 5) (N := some 67) (v := ?_) (a' := ?_) (HW.tf 6 26) rfl rfl (any_of HT_.out (by kernel_rfl)) (fun _ _ _ h => h) (Or.inl ⟨by rfl, ?_⟩) ?_ ?_
                              rotate_left
                              · intro w'
                                go_simp
                                with_reducible rfl
                              rotate_left
                              · simp only [Act.put, HW.LA, HW.LZ, HW.LS, i64_w, i32_w]
                                rfl
                              refine pure_ (i := 6) (N := some 68) (v := ?_) (a' := ?_) (HW.tf 7 25) rfl rfl (any_of HT_.out (by kernel_rfl)) (fun _ _ _ h => h) (Or.inl ⟨by rfl, ?_⟩) ?_ ?_
                              rotate_left
                              · intro w'
                                go_simp
                                with_reducible rfl
                              rotate_left
                              · simp only [Act.put, HW.LA, HW.LZ, HW.LS, i64_w, i32_w]
                                rfl
                              refine pure_ (i := 7) (N := some 69) (v := ?_) (a' := ?_) (HW.tf 8 24) rfl rfl (any_of HT_.out (by kernel_rfl)) (fun _ _ _ h => h) (Or.inl ⟨by rfl, ?_⟩) ?_ ?_
                              rotate_left
                              · intro w'
                                go_simp
                                with_reducible rfl
                              rotate_left
                              · simp only [Act.put, HW.LA, HW.LZ, HW.LS, i64_w, i32_w]
                                rfl
                              refine pure_ (i := 8) (N := some 70) (v := ?_) (a' := ?_) (HW.tf 9 23) rfl rfl (any_of HT_.out (by kernel_rfl)) (fun _ _ _ h => h) (Or.inl ⟨by rfl, ?_⟩) ?_ ?_
                              rotate_left
                              · intro w'
                                go_simp
                                with_reducible rfl
                              rotate_left
                              · simp only [Act.put, HW.LA, HW.LZ, HW.LS, i64_w, i32_w]
                                rfl
                              refine pure_ (i := 9) (N := some 71) (v := undef) (a' := ?_) (HW.tf 10 22) rfl rfl (any_of HT_.out (by kernel_rfl)) (fun _ _ _ h => h) (Or.inr ⟨by rfl, rfl⟩) ?_ ?_
                              rotate_left
                              · simp only [Act.put, HW.LA, HW.LZ, HW.LS, i64_w, i32_w]
                                rfl
                              refine pure_ (i := 10) (N := some 72) (v := undef) (a' := ?_) (HW.tf 11 21) rfl rfl (any_of HT_.out (by kernel_rfl)) (fun _ _ _ h => h) (Or.inr ⟨by rfl, rfl⟩) ?_ ?_
                              rotate_left
                              · simp only [Act.put, HW.LA, HW.LZ, HW.LS, i64_w, i32_w]
                                rfl
                              refine pure_ (i := 11) (N := some 73) (v := ?_) (a' := ?_) (HW.tf 12 20) rfl rfl (any_of HT_.out (by kernel_rfl)) (fun _ _ _ h => h) (Or.inl ⟨by rfl, ?_⟩) ?_ ?_
                              rotate_left
                              · intro w'
                                go_simp
                                with_reducible rfl
                              rotate_left
                              · simp only [Act.put, HW.LA, HW.LZ, HW.LS, i64_w, i32_w]
                                rfl
                              refine pure_ (i := 12) (N := some 74) (v := ?_) (a' := ?_) (HW.tf 13 19) rfl rfl (any_of HT_.out (by kernel_rfl)) (fun _ _ _ h => h) (Or.inl ⟨by rfl, ?_⟩) ?_ ?_
                              rotate_left
                              · intro w'
                                go_simp
                                with_reducible rfl
                              rotate_left
                              · simp only [Act.put, HW.LA, HW.LZ, HW.LS, i64_w, i32_w]
                                rfl
                              refine pure_ (i := 13) (N := some 75) (v := undef) (a' := ?_) (HW.tf 14 18) rfl rfl (any_of HT_.out (by kernel_rfl)) (fun _ _ _ h => h) (Or.inr ⟨by rfl, rfl⟩) ?_ ?_
                              rotate_left
                              · simp only [Act.put, HW.LA, HW.LZ, HW.LS, i64_w, i32_w]
                                rfl
                              refine pure_ (i := 14) (N := some 76) (v := undef) (a' := ?_) (HW.tf 15 17) rfl rfl (any_of HT_.out (by kernel_rfl)) (fun _ _ _ h => h) (Or.inr ⟨by rfl, rfl⟩) ?_ ?_
                              rotate_left
                              · simp only [Act.put, HW.LA, HW.LZ, HW.LS, i64_w, i32_w]
                                rfl
                              refine pure_ (i := 15) (N := some 77) (v := undef) (a' := ?_) (HW.tf 16 16) rfl rfl (any_of HT_.out (by kernel_rfl)) (fun _ _ _ h => h) (Or.inr ⟨by rfl, rfl⟩) ?_ ?_
                              rotate_left
                              · simp only [Act.put, HW.LA, HW.LZ, HW.LS, i64_w, i32_w]
                                rfl
                              refine pure_ (i := 16) (N := some 78) (v := undef) (a' := ?_) (HW.tf 17 15) rfl rfl (any_of HT_.out (by kernel_rfl)) (fun _ _ _ h => h) (Or.inr ⟨by rfl, rfl⟩) ?_ ?_
                              rotate_left
                              · simp only [Act.put, HW.LA, HW.LZ, HW.LS, i64_w, i32_w]
                                rfl
                              refine pure_ (i := 17) (N := some 79) (v := ?_) (a' := ?_) (HW.tf 18 14) rfl rfl (any_of HT_.out (by kernel_rfl)) (fun _ _ _ h => h) (Or.inl ⟨by rfl, ?_⟩) ?_ ?_
                              rotate_left
                              · intro w'
                                go_simp
                                with_reducible rfl
                              rotate_left
                              · simp only [Act.put, HW.LA, HW.LZ, HW.LS, i64_w, i32_w]
                                rfl
                              refine pure_ (i := 18) (N := some 80) (v := ?_) (a' := ?_) (HW.tf 19 13) rfl rfl (any_of HT_.out (by kernel_rfl)) (fun _ _ _ h => h) (Or.inl ⟨by rfl, ?_⟩) ?_ ?_
                              rotate_left
                              · intro w'
                                go_simp
                                with_reducible rfl
                              rotate_left
                              · simp only [Act.put, HW.LA, HW.LZ, HW.LS, i64_w, i32_w]
                                rfl
                              refine pure_ (i := 19) (N := some 81) (v := undef) (a' := ?_) (HW.tf 20 12) rfl rfl (any_of HT_.out (by kernel_rfl)) (fun _ _ _ h => h) (Or.inr ⟨by rfl, rfl⟩) ?_ ?_
                              rotate_left
                              · simp only [Act.put, HW.LA, HW.LZ, HW.LS, i64_w, i32_w]
                                rfl
                              refine pure_ (i := 20) (N := some 82) (v := undef) (a' := ?_) (HW.tf 21 11) rfl rfl (any_of HT_.out (by kernel_rfl)) (fun _ _ _ h => h) (Or.inr ⟨by rfl, rfl⟩) ?_ ?_
                              rotate_left
                              · simp only [Act.put, HW.LA, HW.LZ, HW.LS, i64_w, i32_w]
                                rfl
                              refine pure_ (i := 21) (N := some 83) (v := undef) (a' := ?_) (HW.tf 22 10) rfl rfl (any_of HT_.out (by kernel_rfl)) (fun _ _ _ h => h) (Or.inr ⟨by rfl, rfl⟩) ?_ ?_
                              rotate_left
                              · simp only [Act.put, HW.LA, HW.LZ, HW.LS, i64_w, i32_w]
                                rfl
                              refine pure_ (i := 22) (N := some 84) (v := undef) (a' := ?_) (HW.tf 23 9) rfl rfl (any_of HT_.out (by kernel_rfl)) (fun _ _ _ h => h) (Or.inr ⟨by rfl, rfl⟩) ?_ ?_
                              rotate_left
                              · simp only [Act.put, HW.LA, HW.LZ, HW.LS, i64_w, i32_w]
                                rfl
                              refine pure_ (i := 23) (N := some 85) (v := undef) (a' := ?_) (HW.tf 24 8) rfl rfl (any_of HT_.out (by kernel_rfl)) (fun _ _ _ h => h) (Or.inr ⟨by rfl, rfl⟩) ?_ ?_
                              rotate_left
                              · simp only [Act.put, HW.LA, HW.LZ, HW.LS, i64_w, i32_w]
                                rfl
                              refine pure_ (i := 24) (N := some 86) (v := undef) (a' := ?_) (HW.tf 25 7) rfl rfl (any_of HT_.out (by kernel_rfl)) (fun _ _ _ h => h) (Or.inr ⟨by rfl, rfl⟩) ?_ ?_
                              rotate_left
                              · simp only [Act.put, HW.LA, HW.LZ, HW.LS, i64_w, i32_w]
                                rfl
                              refine pure_ (i := 25) (N := some 87) (v := undef) (a' := ?_) (HW.tf 26 6) rfl rfl (any_of HT_.out (by kernel_rfl)) (fun _ _ _ h => h) (Or.inr ⟨by rfl, rfl⟩) ?_ ?_
                              rotate_left
                              · simp only [Act.put, HW.LA, HW.LZ, HW.LS, i64_w, i32_w]
                                rfl
                              refine pure_ (i := 26) (N := some 88) (v := undef) (a' := ?_) (HW.tf 27 5) rfl rfl (any_of HT_.out (by kernel_rfl)) (fun _ _ _ h => h) (Or.inr ⟨by rfl, rfl⟩) ?_ ?_
                              rotate_left
                              · simp only [Act.put, HW.LA, HW.LZ, HW.LS, i64_w, i32_w]
                                rfl
                              refine pure_ (i := 27) (N := some 89) (v := undef) (a' := ?_) (HW.tf 28 4) rfl rfl (any_of HT_.out (by kernel_rfl)) (fun _ _ _ h => h) (Or.inr ⟨by rfl, rfl⟩) ?_ ?_
                              rotate_left
                              · simp only [Act.put, HW.LA, HW.LZ, HW.LS, i64_w, i32_w]
                                rfl
                              refine pure_ (i := 28) (N := some 90) (v := undef) (a' := ?_) (HW.tf 29 3) rfl rfl (any_of HT_.out (by kernel_rfl)) (fun _ _ _ h => h) (Or.inr ⟨by rfl, rfl⟩) ?_ ?_
                              rotate_left
                              · simp only [Act.put, HW.LA, HW.LZ, HW.LS, i64_w, i32_w]
                                rfl
                              refine pure_ (i := 29) (N := some 91) (v := undef) (a' := ?_) (HW.tf 30 2) rfl rfl (any_of HT_.out (by kernel_rfl)) (fun _ _ _ h => h) (Or.inr ⟨by rfl, rfl⟩) ?_ ?_
                              rotate_left
                              · simp only [Act.put, HW.LA, HW.LZ, HW.LS, i64_w, i32_w]
                                rfl
                              refine pure_ (i := 30) (N := some 92) (v := undef) (a' := ?_) (HW.tf 31 1) rfl rfl (any_of HT_.out (by kernel_rfl)) (fun _ _ _ h => h) (Or.inr ⟨by rfl, rfl⟩) ?_ ?_
                              rotate_left
                              · simp only [Act.put, HW.LA, HW.LZ, HW.LS, i64_w, i32_w]
                                rfl
                              refine pure_ (i := 31) (N := some 93) (v := ?_) (a' := ?_) (HW.tf 32 0) rfl rfl (any_of HT_.out (by kernel_rfl)) (fun _ _ _ h => h) (Or.inl ⟨by rfl, ?_⟩) ?_ ?_
                              rotate_left
                              · intro w'
                                go_simp
                                with_reducible rfl
                              rotate_left
                              · simp only [Act.put, HW.LA, HW.LZ, HW.LS, i64_w, i32_w]
                                rfl
                              refine done_ (done_of HT_.out (by kernel_rfl)) ?_
                              try go_wp2
                              go_meet
                              case rel => exact ⟨_, (true), (by first | rfl | (simp; done) | (simp [*]; done)), H', ⟨by have := HJ3.out; have := HK2.out; first | omega | exact Nat.le_refl _⟩, ⟨by (with_reducible repeat (first | apply Kd.V_alloc | apply Kd.V_drewN | apply Kd.V_drew)); exact Kd.V_mono HO_0.out (fun _ hk => hk.1)⟩, ⟨by repeat (first | (with_reducible first | exact HB.out | apply below_alloc | apply pw_below_drewN | apply below_drew1) | exact HB.out)⟩⟩
                            · rw [if_neg c41] at H
                              have c41b0 : decide ((l0.length : Int) ≤ t172) = false := decide_eq_false c41
                              clear c41
                              by_cases c43 : t192 < 0
                              · rw [if_pos c43] at H
                                have c43b0 : decide (t192 < 0) = true := decide_eq_true c43
                                clear c43
                                have H' := Aside0.mk H
                                clear H
                                try go_wp2
                                have n0_ := Aside0.mk (Kd.V_drew HO_0.out)
                                have n1_ := Aside0.mk (Kd.V_drew HO180.out)
                                have n2_ := Aside0.mk (Kd.V_drew HO188.out)
                                have n3_ := Aside0.mk (Kd.N_drew HO191.out)
                                have n4_ := Aside0.mk (below_drew1 HB.out)
                                clear HO_0
                                clear HO180
                                clear HO188
                                clear HO191
                                clear HB
                                have HO_0 := n0_
                                have HO180 := n1_
                                have HO188 := n2_
                                have HO191 := n3_
                                have HB := n4_
                                clear n0_ n1_ n2_ n3_ n4_
                                refine start_ (n := 32) (S := fun w' => True) (ds := []) #[false, false, false, false, false, false, false, false, false, false, false, false, false, false, false, false, false, false, false, false, false, false, false, false, false, false, false, false, false, false, false, false] (by kernel_rfl) rfl rfl trivial (fun hHeld => ?_); refine with_tabW phaetontop_TopMany.tab13 phaetontop_TopMany.bits13 (fun HT_ HW_ => ?_)
                                generalize w38.drew = w44 at HO_0 HO180 HO188 HO191 HB hHeld ⊢
                                refine pure_ (i := 0) (N := some 62) (v := ?_) (a' := ?_) (HW.tf 1 31) rfl rfl (any_of HT_.out (by kernel_rfl)) (fun _ _ _ h => h) (Or.inl ⟨by rfl, ?_⟩) ?_ ?_
                                rotate_left
                                · intro w'
                                  go_simp
                                  with_reducible rfl
                                rotate_left
                                · simp only [Act.put, HW.LA, HW.LZ, HW.LS, i64_w, i32_w]
                                  rfl
                                refine pure_ (i := 1) (N := some 63) (v := ?_) (a' := ?_) (HW.tf 2 30) rfl rfl (any_of HT_.out (by kernel_rfl)) (fun _ _ _ h => h) (Or.inl ⟨by rfl, ?_⟩) ?_ ?_
                                rotate_left
                                · intro w'
                                  go_simp
                                  with_reducible rfl
                                rotate_left
                                · simp only [Act.put, HW.LA, HW.LZ, HW.LS, i64_w, i32_w]
                                  rfl
                                refine pure_ (i := 2) (N := some 64) (v := ?_) (a' := ?_) (HW.tf 3 29) rfl rfl (any_of HT_.out (by kernel_rfl)) (fun _ _ _ h => h) (Or.inl ⟨by rfl, ?_⟩) ?_ ?_
                                rotate_left
                                · intro w'
                                  go_simp
                                  with_reducible rfl
                                rotate_left
                                · simp only [Act.put, HW.LA, HW.LZ, HW.LS, i64_w, i32_w]
                                  rfl
                                refine pure_ (i := 3) (N := some 65) (v := ?_) (a' := ?_) (HW.tf 4 28) rfl rfl (any_of HT_.out (by kernel_rfl)) (fun _ _ _ h => h) (Or.inl ⟨by rfl, ?_⟩) ?_ ?_
                                rotate_left
                                · intro w'
                                  go_simp
                                  with_reducible rfl
                                rotate_left
                                · simp only [Act.put, HW.LA, HW.LZ, HW.LS, i64_w, i32_w]
                                  rfl
                                refine pure_ (i := 4) (N := some 66) (v := ?_) (a' := ?_) (HW.tf 5 27) rfl rfl (any_of HT_.out (by kernel_rfl)) (fun _ _ _ h => h) (Or.inl ⟨by rfl, ?_⟩) ?_ ?_
                                rotate_left
                                · intro w'
                                  go_simp
                                  with_reducible rfl
                                rotate_left
                                · simp only [Act.put, HW.LA, HW.LZ, HW.LS, i64_w, i32_w]
                                  rfl
                                refine pure_ (i := 5) (N := some 67) (v := ?_) (a' := ?_) (HW.tf 6 26) rfl rfl (any_of HT_.out (by kernel_rfl)) (fun _ _ _ h => h) (Or.inl ⟨by rfl, ?_⟩) ?_ ?_
                                rotate_left
                                · intro w'
                                  go_simp
                                  with_reducible rfl
                                rotate_left
                                · simp only [Act.put, HW.LA, HW.LZ, HW.LS, i64_w, i32_w]
                                  rfl
                                refine pure_ (i := 6) (N := some 68) (v := ?_) (a' := ?_) (HW.tf 7 25) rfl rfl (any_of HT_.out (by kernel_rfl)) (fun _ _ _ h => h) (Or.inl ⟨by rfl, ?_⟩) ?_ ?_
                                rotate_left
                                · intro w'
                                  go_simp
                                  with_reducible rfl
                                rotate_left
                                · simp only [Act.put, HW.LA, HW.LZ, HW.LS, i64_w, i32_w]
                                  rfl
                                refine pure_ (i := 7) (N := some 69) (v := ?_) (a' := ?_) (HW.tf 8 24) rfl rfl (any_of HT_.out (by kernel_rfl)) (fun _ _ _ h => h) (Or.inl ⟨by rfl, ?_⟩) ?_ ?_
                                rotate_left
                                · intro w'
                                  go_simp
                                  with_reducible rfl
                                rotate_left
                                · simp only [Act.put, HW.LA, HW.LZ, HW.LS, i64_w, i32_w]
                                  rfl
                                refine pure_ (i := 8) (N := some 70) (v := ?_) (a' := ?_) (HW.tf 9 23) rfl rfl (any_of HT_.out (by kernel_rfl)) (fun _ _ _ h => h) (Or.inl ⟨by rfl, ?_⟩) ?_ ?_
                                rotate_left
                                · intro w'
                                  go_simp
                                  with_reducible rfl
                                rotate_left
                                · simp only [Act.put, HW.LA, HW.LZ, HW.LS, i64_w, i32_w]
                                  rfl
                                refine pure_ (i := 9) (N := some 71) (v := ?_) (a' := ?_) (HW.tf 10 22) rfl rfl (any_of HT_.out (by kernel_rfl)) (fun _ _ _ h => h) (Or.inl ⟨by rfl, ?_⟩) ?_ ?_
                                rotate_left
                                · intro w'
                                  go_simp
                                  with_reducible rfl
                                rotate_left
                                · simp only [Act.put, HW.LA, HW.LZ, HW.LS, i64_w, i32_w]
                                  rfl
                                refine pure_ (i := 10) (N := some 72) (v := ?_) (a' := ?_) (HW.tf 11 21) rfl rfl (any_of HT_.out (by kernel_rfl)) (fun _ _ _ h => h) (Or.inl ⟨by rfl, ?_⟩) ?_ ?_
                                rotate_left
                                · intro w'
                                  go_simp
                                  with_reducible rfl
                                rotate_left
                                · simp only [Act.put, HW.LA, HW.LZ, HW.LS, i64_w, i32_w]
                                  rfl
                                refine pure_ (i := 11) (N := some 73) (v := ?_) (a' := ?_) (HW.tf 12 20) rfl rfl (any_of HT_.out (by kernel_rfl)) (fun _ _ _ h => h) (Or.inl ⟨by rfl, ?_⟩) ?_ ?_
                                rotate_left
                                · intro w'
                                  go_simp
                                  with_reducible rfl
                                rotate_left
                                · simp only [Act.put, HW.LA, HW.LZ, HW.LS, i64_w, i32_w]
                                  rfl
                                refine pure_ (i := 12) (N := some 74) (v := ?_) (a' := ?_) (HW.tf 13 19) rfl rfl (any_of HT_.out (by kernel_rfl)) (fun _ _ _ h => h) (Or.inl ⟨by rfl, ?_⟩) ?_ ?_
                                rotate_left
                                · intro w'
                                  go_simp
                                  with_reducible rfl
                                rotate_left
                                · simp only [Act.put, HW.LA, HW.LZ, HW.LS, i64_w, i32_w]
                                  rfl
                                refine pure_ (i := 13) (N := some 75) (v := undef) (a' := ?_) (HW.tf 14 18) rfl rfl (any_of HT_.out (by kernel_rfl)) (fun _ _ _ h => h) (Or.inr ⟨by rfl, rfl⟩) ?_ ?_
                                rotate_left
                                · simp only [Act.put, HW.LA, HW.LZ, HW.LS, i64_w, i32_w]
                                  rfl
                                refine pure_ (i := 14) (N := some 76) (v := undef) (a' := ?_) (HW.tf 15 17) rfl rfl (any_of HT_.out (by kernel_rfl)) (fun _ _ _ h => h) (Or.inr ⟨by rfl, rfl⟩) ?_ ?_
                                rotate_left
                                · simp only [Act.put, HW.LA, HW.LZ, HW.LS, i64_w, i32_w]
                                  rfl
                                refine pure_ (i := 15) (N := some 77) (v := undef) (a' := ?_) (HW.tf 16 16) rfl rfl (any_of HT_.out (by kernel_rfl)) (fun _ _ _ h => h) (Or.inr ⟨by rfl, rfl⟩) ?_ ?_
                                rotate_left
                                · simp only [Act.put, HW.LA, HW.LZ, HW.LS, i64_w, i32_w]
                                  rfl
                                refine pure_ (i := 16) (N := some 78) (v := undef) (a' := ?_) (HW.tf 17 15) rfl rfl (any_of HT_.out (by kernel_rfl)) (fun _ _ _ h => h) (Or.inr ⟨by rfl, rfl⟩) ?_ ?_
                                rotate_left
                                · simp only [Act.put, HW.LA, HW.LZ, HW.LS, i64_w, i32_w]
                                  rfl
                                refine pure_ (i := 17) (N := some 79) (v := ?_) (a' := ?_) (HW.tf 18 14) rfl rfl (any_of HT_.out (by kernel_rfl)) (fun _ _ _ h => h) (Or.inl ⟨by rfl, ?_⟩) ?_ ?_
                                rotate_left
                                · intro w'
                                  go_simp
                                  with_reducible rfl
                                rotate_left
                                · simp only [Act.put, HW.LA, HW.LZ, HW.LS, i64_w, i32_w]
                                  rfl
                                refine pure_ (i := 18) (N := some 80) (v := ?_) (a' := ?_) (HW.tf 19 13) rfl rfl (any_of HT_.out (by kernel_rfl)) (fun _ _ _ h => h) (Or.inl ⟨by rfl, ?_⟩) ?_ ?_
                                rotate_left
                                · intro w'
                                  go_simp
                                  with_reducible rfl
                                rotate_left
                                · simp only [Act.put, HW.LA, HW.LZ, HW.LS, i64_w, i32_w]
                                  rfl
                                refine pure_ (i := 19) (N := some 81) (v := undef) (a' := ?_) (HW.tf 20 12) rfl rfl (any_of HT_.out (by kernel_rfl)) (fun _ _ _ h => h) (Or.inr ⟨by rfl, rfl⟩) ?_ ?_
                                rotate_left
                                · simp only [Act.put, HW.LA, HW.LZ, HW.LS, i64_w, i32_w]
                                  rfl
                                refine pure_ (i := 20) (N := some 82) (v := undef) (a' := ?_) (HW.tf 21 11) rfl rfl (any_of HT_.out (by kernel_rfl)) (fun _ _ _ h => h) (Or.inr ⟨by rfl, rfl⟩) ?_ ?_
                                rotate_left
                                · simp only [Act.put, HW.LA, HW.LZ, HW.LS, i64_w, i32_w]
                                  rfl
                                refine pure_ (i := 21) (N := some 83) (v := undef) (a' := ?_) (HW.tf 22 10) rfl rfl (any_of HT_.out (by kernel_rfl)) (fun _ _ _ h => h) (Or.inr ⟨by rfl, rfl⟩) ?_ ?_
                                rotate_left
                                · simp only [Act.put, HW.LA, HW.LZ, HW.LS, i64_w, i32_w]
                                  rfl
                                refine pure_ (i := 22) (N := some 84) (v := undef) (a' := ?_) (HW.tf 23 9) rfl rfl (any_of HT_.out (by kernel_rfl)) (fun _ _ _ h => h) (Or.inr ⟨by rfl, rfl⟩) ?_ ?_
                                rotate_left
                                · simp only [Act.put, HW.LA, HW.LZ, HW.LS, i64_w, i32_w]
                                  rfl
                                refine pure_ (i := 23) (N := some 85) (v := undef) (a' := ?_) (HW.tf 24 8) rfl rfl (any_of HT_.out (by kernel_rfl)) (fun _ _ _ h => h) (Or.inr ⟨by rfl, rfl⟩) ?_ ?_
                                rotate_left
                                · simp only [Act.put, HW.LA, HW.LZ, HW.LS, i64_w, i32_w]
                                  rfl
                                refine pure_ (i := 24) (N := some 86) (v := undef) (a' := ?_) (HW.tf 25 7) rfl rfl (any_of HT_.out (by kernel_rfl)) (fun _ _ _ h => h) (Or.inr ⟨by rfl, rfl⟩) ?_ ?_
                                rotate_left
                                · simp only [Act.put, HW.LA, HW.LZ, HW.LS, i64_w, i32_w]
                                  rfl
                                refine pure_ (i := 25) (N := some 87) (v := undef) (a' := ?_) (HW.tf 26 6) rfl rfl (any_of HT_.out (by kernel_rfl)) (fun _ _ _ h => h) (Or.inr ⟨by rfl, rfl⟩) ?_ ?_
                                rotate_left
                                · simp only [Act.put, HW.LA, HW.LZ, HW.LS, i64_w, i32_w]
                                  rfl
                                refine pure_ (i := 26) (N := some 88) (v := undef) (a' := ?_) (HW.tf 27 5) rfl rfl (any_of HT_.out (by kernel_rfl)) (fun _ _ _ h => h) (Or.inr ⟨by rfl, rfl⟩) ?_ ?_
                                rotate_left
                                · simp only [Act.put, HW.LA, HW.LZ, HW.LS, i64_w, i32_w]
                                  rfl
                                refine pure_ (i := 27) (N := some 89) (v := undef) (a' := ?_) (HW.tf 28 4) rfl rfl (any_of HT_.out (by kernel_rfl)) (fun _ _ _ h => h) (Or.inr ⟨by rfl, rfl⟩) ?_ ?_
                                rotate_left
                                · simp only [Act.put, HW.LA, HW.LZ, HW.LS, i64_w, i32_w]
                                  rfl
                                refine pure_ (i := 28) (N := some 90) (v := undef) (a' := ?_) (HW.tf 29 3) rfl rfl (any_of HT_.out (by kernel_rfl)) (fun _ _ _ h => h) (Or.inr ⟨by rfl, rfl⟩) ?_ ?_
                                rotate_left
                                · simp only [Act.put, HW.LA, HW.LZ, HW.LS, i64_w, i32_w]
                                  rfl
                                refine pure_ (i := 29) (N := some 91) (v := undef) (a' := ?_) (HW.tf 30 2) rfl rfl (any_of HT_.out (by kernel_rfl)) (fun _ _ _ h => h) (Or.inr ⟨by rfl, rfl⟩) ?_ ?_
                                rotate_left
                                · simp only [Act.put, HW.LA, HW.LZ, HW.LS, i64_w, i32_w]
                                  rfl
                                refine pure_ (i := 30) (N := some 92) (v := undef) (a' := ?_) (HW.tf 31 1) rfl rfl (any_of HT_.out (by kernel_rfl)) (fun _ _ _ h => h) (Or.inr ⟨by rfl, rfl⟩) ?_ ?_
                                rotate_left
                                · simp only [Act.put, HW.LA, HW.LZ, HW.LS, i64_w, i32_w]
                                  rfl
                                refine pure_ (i := 31) (N := some 93) (v := ?_) (a' := ?_) (HW.tf 32 0) rfl rfl (any_of HT_.out (by kernel_rfl)) (fun _ _ _ h => h) (Or.inl ⟨by rfl, ?_⟩) ?_ ?_
                                rotate_left
                                · intro w'
                                  go_simp
                                  with_reducible rfl
                                rotate_left
                                · simp only [Act.put, HW.LA, HW.LZ, HW.LS, i64_w, i32_w]
                                  rfl
                                refine done_ (done_of HT_.out (by kernel_rfl)) ?_
                                try go_wp2
                                go_meet
                                case rel => exact ⟨_, (true), (by first | rfl | (simp; done) | (simp [*]; done)), H', ⟨by have := HJ3.out; have := HK2.out; first | omega | exact Nat.le_refl _⟩, ⟨by (with_reducible repeat (first | apply Kd.V_alloc | apply Kd.V_drewN | apply Kd.V_drew)); exact Kd.V_mono HO_0.out (fun _ hk => hk.1)⟩, ⟨by repeat (first | (with_reducible first | exact HB.out | apply below_alloc | apply pw_below_drewN | apply below_drew1) | exact HB.out)⟩⟩
                              · rw [if_neg c43] at H
                                have c43b0 : decide (t192 < 0) = false := decide_eq_false c43
                                clear c43
                                by_cases c45 : t192 ≥ (l0.length : Int)
                                · rw [if_pos c45] at H
                                  have c45b0 : decide ((l0.length : Int) ≤ t192) = true := decide_eq_true c45
                                  clear c45
                                  have H' := Aside0.mk H
                                  clear H
                                  try go_wp2
                                  have n0_ := Aside0.mk (Kd.V_drew HO_0.out)
                                  have n1_ := Aside0.mk (Kd.V_drew HO180.out)
                                  have n2_ := Aside0.mk (Kd.V_drew HO188.out)
                                  have n3_ := Aside0.mk (Kd.N_drew HO191.out)
                                  have n4_ := Aside0.mk (below_drew1 HB.out)
                                  clear HO_0
                                  clear HO180
                                  clear HO188
                                  clear HO191
                                  clear HB
                                  have HO_0 := n0_
                                  have HO180 := n1_
                                  have HO188 := n2_
                                  have HO191 := n3_
                                  have HB := n4_
                                  clear n0_ n1_ n2_ n3_ n4_
                                  refine start_ (n := 32) (S := fun w' => True) (ds := []) #[false, false, false, false, false, false, false, false, false, false, false, false, false, false, false, false, false, false, false, false, false, false, false, false, false, false, false, false, false, false, false, false] (by kernel_rfl) rfl rfl trivial (fun hHeld => ?_); refine with_tabW phaetontop_TopMany.tab13 phaetontop_TopMany.bits13 (fun HT_ HW_ => ?_)
                                  generalize w38.drew = w46 at HO_0 HO180 HO188 HO191 HB hHeld ⊢
                                  refine pure_ (i := 0) (N := some 62) (v := ?_) (a' := ?_) (HW.tf 1 31) rfl rfl (any_of HT_.out (by kernel_rfl)) (fun _ _ _ h => h) (Or.inl ⟨by rfl, ?_⟩) ?_ ?_
                                  rotate_left
                                  · intro w'
                                    go_simp
                                    with_reducible rfl
                                  rotate_left
                                  · simp only [Act.put, HW.LA, HW.LZ, HW.LS, i64_w, i32_w]
                                    rfl
                                  refine pure_ (i := 1) (N := some 63) (v := ?_) (a' := ?_) (HW.tf 2 30) rfl rfl (any_of HT_.out (by kernel_rfl)) (fun _ _ _ h => h) (Or.inl ⟨by rfl, ?_⟩) ?_ ?_
                                  rotate_left
                                  · intro w'
                                    go_simp
                                    with_reducible rfl
                                  rotate_left
                                  · simp only [Act.put, HW.LA, HW.LZ, HW.LS, i64_w, i32_w]
                                    rfl
                                  refine pure_ (i := 2) (N := some 64) (v := ?_) (a' := ?_) (HW.tf 3 29) rfl rfl (any_of HT_.out (by kernel_rfl)) (fun _ _ _ h => h) (Or.inl ⟨by rfl, ?_⟩) ?_ ?_
                                  rotate_left
                                  · intro w'
                                    go_simp
                                    with_reducible rfl
                                  rotate_left
                                  · simp only [Act.put, HW.LA, HW.LZ, HW.LS, i64_w, i32_w]
                                    rfl
                                  refine pure_ (i := 3) (N := some 65) (v := ?_) (a' := ?_) (HW.tf 4 28) rfl rfl (any_of HT_.out (by kernel_rfl)) (fun _ _ _ h => h) (Or.inl ⟨by rfl, ?_⟩) ?_ ?_
                                  rotate_left
                                  · intro w'
                                    go_simp
                                    with_reducible rfl
                                  rotate_left
                                  · simp only [Act.put, HW.LA, HW.LZ, HW.LS, i64_w, i32_w]
                                    rfl
                                  refine pure_ (i := 4) (N := some 66) (v := ?_) (a' := ?_) (HW.tf 5 27) rfl rfl (any_of HT_.out (by kernel_rfl)) (fun _ _ _ h => h) (Or.inl ⟨by rfl, ?_⟩) ?_ ?_
                                  rotate_left
                                  · intro w'
                                    go_simp
                                    with_reducible rfl
                                  rotate_left
                                  · simp only [Act.put, HW.LA, HW.LZ, HW.LS, i64_w, i32_w]
                                    rfl
                                  refine pure_ (i := 5) (N := some 67) (v := ?_) (a' := ?_) (HW.tf 6 26) rfl rfl (any_of HT_.out (by kernel_rfl)) (fun _ _ _ h => h) (Or.inl ⟨by rfl, ?_⟩) ?_ ?_
                                  rotate_left
                                  · intro w'
                                    go_simp
                                    with_reducible rfl
                                  rotate_left
                                  · simp only [Act.put, HW.LA, HW.LZ, HW.LS, i64_w, i32_w]
                                    rfl
                                  refine pure_ (i := 6) (N := some 68) (v := ?_) (a' := ?_) (HW.tf 7 25) rfl rfl (any_of HT_.out (by kernel_rfl)) (fun _ _ _ h => h) (Or.inl ⟨by rfl, ?_⟩) ?_ ?_
                                  rotate_left
                                  · intro w'
                                    go_simp
                                    with_reducible rfl
                                  rotate_left
                                  · simp only [Act.put, HW.LA, HW.LZ, HW.LS, i64_w, i32_w]
                                    rfl
                                  refine pure_ (i := 7) (N := some 69) (v := ?_) (a' := ?_) (HW.tf 8 24) rfl rfl (any_of HT_.out (by kernel_rfl)) (fun _ _ _ h => h) (Or.inl ⟨by rfl, ?_⟩) ?_ ?_
                                  rotate_left
                                  · intro w'
                                    go_simp
                                    with_reducible rfl
                                  rotate_left
                                  · simp only [Act.put, HW.LA, HW.LZ, HW.LS, i64_w, i32_w]
                                    rfl
                                  refine pure_ (i := 8) (N := some 70) (v := ?_) (a' := ?_) (HW.tf 9 23) rfl rfl (any_of HT_.out (by kernel_rfl)) (fun _ _ _ h => h) (Or.inl ⟨by rfl, ?_⟩) ?_ ?_
                                  rotate_left
                                  · intro w'
                                    go_simp
                                    with_reducible rfl
                                  rotate_left
                                  · simp only [Act.put, HW.LA, HW.LZ, HW.LS, i64_w, i32_w]
                                    rfl
                                  refine pure_ (i := 9) (N := some 71) (v := ?_) (a' := ?_) (HW.tf 10 22) rfl rfl (any_of HT_.out (by kernel_rfl)) (fun _ _ _ h => h) (Or.inl ⟨by rfl, ?_⟩) ?_ ?_
                                  rotate_left
                                  · intro w'
                                    go_simp
                                    with_reducible rfl
                                  rotate_left
                                  · simp only [Act.put, HW.LA, HW.LZ, HW.LS, i64_w, i32_w]
                                    rfl
                                  refine pure_ (i := 10) (N := some 72) (v := ?_) (a' := ?_) (HW.tf 11 21) rfl rfl (any_of HT_.out (by kernel_rfl)) (fun _ _ _ h => h) (Or.inl ⟨by rfl, ?_⟩) ?_ ?_
                                  rotate_left
                                  · intro w'
                                    go_simp
                                    with_reducible rfl
                                  rotate_left
                                  · simp only [Act.put, HW.LA, HW.LZ, HW.LS, i64_w, i32_w]
                                    rfl
                                  refine pure_ (i := 11) (N := some 73) (v := ?_) (a' := ?_) (HW.tf 12 20) rfl rfl (any_of HT_.out (by kernel_rfl)) (fun _ _ _ h => h) (Or.inl ⟨by rfl, ?_⟩) ?_ ?_
                                  rotate_left
                                  · intro w'
                                    go_simp
                                    with_reducible rfl
                                  rotate_left
                                  · simp only [Act.put, HW.LA, HW.LZ, HW.LS, i64_w, i32_w]
                                    rfl
                                  refine pure_ (i := 12) (N := some 74) (v := ?_) (a' := ?_) (HW.tf 13 19) rfl rfl (any_of HT_.out (by kernel_rfl)) (fun _ _ _ h => h) (Or.inl ⟨by rfl, ?_⟩) ?_ ?_
                                  rotate_left
                                  · intro w'
                                    go_simp
                                    with_reducible rfl
                                  rotate_left
                                  · simp only [Act.put, HW.LA, HW.LZ, HW.LS, i64_w, i32_w]
                                    rfl
                                  refine pure_ (i := 13) (N := some 75) (v := ?_) (a' := ?_) (HW.tf 14 18) rfl rfl (any_of HT_.out (by kernel_rfl)) (fun _ _ _ h => h) (Or.inl ⟨by rfl, ?_⟩) ?_ ?_
                                  rotate_left
                                  · intro w'
                                    go_simp
                                    with_reducible rfl
                                  rotate_left
                                  · simp only [Act.put, HW.LA, HW.LZ, HW.LS, i64_w, i32_w]
                                    rfl
                                  refine pure_ (i := 14) (N := some 76) (v := ?_) (a' := ?_) (HW.tf 15 17) rfl rfl (any_of HT_.out (by kernel_rfl)) (fun _ _ _ h => h) (Or.inl ⟨by rfl, ?_⟩) ?_ ?_
                                  rotate_left
                                  · intro w'
                                    go_simp
                                    with_reducible rfl
                                  rotate_left
                                  · simp only [Act.put, HW.LA, HW.LZ, HW.LS, i64_w, i32_w]
                                    rfl
                                  refine pure_ (i := 15) (N := some 77) (v := ?_) (a' := ?_) (HW.tf 16 16) rfl rfl (any_of HT_.out (by kernel_rfl)) (fun _ _ _ h => h) (Or.inl ⟨by rfl, ?_⟩) ?_ ?_
                                  rotate_left
                                  · intro w'
                                    go_simp
                                    with_reducible rfl
                                  rotate_left
                                  · simp only [Act.put, HW.LA, HW.LZ, HW.LS, i64_w, i32_w]
                                    rfl
                                  refine pure_ (i := 16) (N := some 78) (v := ?_) (a' := ?_) (HW.tf 17 15) rfl rfl (any_of HT_.out (by kernel_rfl)) (fun _ _ _ h => h) (Or.inl ⟨by rfl, ?_⟩) ?_ ?_
                                  rotate_left
                                  · intro w'
                                    go_simp
                                    with_reducible rfl
                                  rotate_left
                                  · simp only [Act.put, HW.LA, HW.LZ, HW.LS, i64_w, i32_w]
                                    rfl
                                  refine pure_ (i := 17) (N := some 79) (v := ?_) (a' := ?_) (HW.tf 18 14) rfl rfl (any_of HT_.out (by kernel_rfl)) (fun _ _ _ h => h) (Or.inl ⟨by rfl, ?_⟩) ?_ ?_
                                  rotate_left
                                  · intro w'
                                    go_simp
                                    with_reducible rfl
                                  rotate_left
                                  · simp only [Act.put, HW.LA, HW.LZ, HW.LS, i64_w, i32_w]
                                    rfl
                                  refine pure_ (i := 18) (N := some 80) (v := ?_) (a' := ?_) (HW.tf 19 13) rfl rfl (any_of HT_.out (by kernel_rfl)) (fun _ _ _ h => h) (Or.inl ⟨by rfl, ?_⟩) ?_ ?_
                                  rotate_left
                                  · intro w'
                                    go_simp
                                    with_reducible rfl
                                  rotate_left
                                  · simp only [Act.put, HW.LA, HW.LZ, HW.LS, i64_w, i32_w]
                                    rfl
                                  refine pure_ (i := 19) (N := some 81) (v := undef) (a' := ?_) (HW.tf 20 12) rfl rfl (any_of HT_.out (by kernel_rfl)) (fun _ _ _ h => h) (Or.inr ⟨by rfl, rfl⟩) ?_ ?_
                                  rotate_left
                                  · simp only [Act.put, HW.LA, HW.LZ, HW.LS, i64_w, i32_w]
                                    rfl
                                  refine pure_ (i := 20) (N := some 82) (v := undef) (a' := ?_) (HW.tf 21 11) rfl rfl (any_of HT_.out (by kernel_rfl)) (fun _ _ _ h => h) (Or.inr ⟨by rfl, rfl⟩) ?_ ?_
                                  rotate_left
                                  · simp only [Act.put, HW.LA, HW.LZ, HW.LS, i64_w, i32_w]
                                    rfl
                                  refine pure_ (i := 21) (N := some 83) (v := undef) (a' := ?_) (HW.tf 22 10) rfl rfl (any_of HT_.out (by kernel_rfl)) (fun _ _ _ h => h) (Or.inr ⟨by rfl, rfl⟩) ?_ ?_
                                  rotate_left
                                  · simp only [Act.put, HW.LA, HW.LZ, HW.LS, i64_w, i32_w]
                                    rfl
                                  refine pure_ (i := 22) (N := some 84) (v := undef) (a' := ?_) (HW.tf 23 9) rfl rfl (any_of HT_.out (by kernel_rfl)) (fun _ _ _ h => h) (Or.inr ⟨by rfl, rfl⟩) ?_ ?_
                                  rotate_left
                                  · simp only [Act.put, HW.LA, HW.LZ, HW.LS, i64_w, i32_w]
                                    rfl
                                  refine pure_ (i := 23) (N := some 85) (v := undef) (a' := ?_) (HW.tf 24 8) rfl rfl (any_of HT_.out (by kernel_rfl)) (fun _ _ _ h => h) (Or.inr ⟨by rfl, rfl⟩) ?_ ?_
                                  rotate_left
                                  · simp only [Act.put, HW.LA, HW.LZ, HW.LS, i64_w, i32_w]
                                    rfl
                                  refine pure_ (i := 24) (N := some 86) (v := undef) (a' := ?_) (HW.tf 25 7) rfl rfl (any_of HT_.out (by kernel_rfl)) (fun _ _ _ h => h) (Or.inr ⟨by rfl, rfl⟩) ?_ ?_
                                  rotate_left
                                  · simp only [Act.put, HW.LA, HW.LZ, HW.LS, i64_w, i32_w]
                                    rfl
                                  refine pure_ (i := 25) (N := some 87) (v := undef) (a' := ?_) (HW.tf 26 6) rfl rfl (any_of HT_.out (by kernel_rfl)) (fun _ _ _ h => h) (Or.inr ⟨by rfl, rfl⟩) ?_ ?_
                                  rotate_left
                                  · simp only [Act.put, HW.LA, HW.LZ, HW.LS, i64_w, i32_w]
                                    rfl
                                  refine pure_ (i := 26) (N := some 88) (v := undef) (a' := ?_) (HW.tf 27 5) rfl rfl (any_of HT_.out (by kernel_rfl)) (fun _ _ _ h => h) (Or.inr ⟨by rfl, rfl⟩) ?_ ?_
                                  rotate_left
                                  · simp only [Act.put, HW.LA, HW.LZ, HW.LS, i64_w, i32_w]
                                    rfl
                                  refine pure_ (i := 27) (N := some 89) (v := undef) (a' := ?_) (HW.tf 28 4) rfl rfl (any_of HT_.out (by kernel_rfl)) (fun _ _ _ h => h) (Or.inr ⟨by rfl, rfl⟩) ?_ ?_
                                  rotate_left
                                  · simp only [Act.put, HW.LA, HW.LZ, HW.LS, i64_w, i32_w]
                                    rfl
                                  refine pure_ (i := 28) (N := some 90) (v := undef) (a' := ?_) (HW.tf 29 3) rfl rfl (any_of HT_.out (by kernel_rfl)) (fun _ _ _ h => h) (Or.inr ⟨by rfl, rfl⟩) ?_ ?_
                                  rotate_left
                                  · simp only [Act.put, HW.LA, HW.LZ, HW.LS, i64_w, i32_w]
                                    rfl
                                  refine pure_ (i := 29) (N := some 91) (v := undef) (a' := ?_) (HW.tf 30 2) rfl rfl (any_of HT_.out (by kernel_rfl)) (fun _ _ _ h => h) (Or.inr ⟨by rfl, rfl⟩) ?_ ?_
                                  rotate_left
                                  · simp only [Act.put, HW.LA, HW.LZ, HW.LS, i64_w, i32_w]
                                    rfl
                                  refine pure_ (i := 30) (N := some 92) (v := undef) (a' := ?_) (HW.tf 31 1) rfl rfl (any_of HT_.out (by kernel_rfl)) (fun _ _ _ h => h) (Or.inr ⟨by rfl, rfl⟩) ?_ ?_
                                  rotate_left
                                  · simp only [Act.put, HW.LA, HW.LZ, HW.LS, i64_w, i32_w]
                                    rfl
                                  refine pure_ (i := 31) (N := some 93) (v := ?_) (a' := ?_) (HW.tf 32 0) rfl rfl (any_of HT_.out (by kernel_rfl)) (fun _ _ _ h => h) (Or.inl ⟨by rfl, ?_⟩) ?_ ?_
                                  rotate_left
                                  · intro w'
                                    go_simp
                                    with_reducible rfl
                                  rotate_left
                                  · simp only [Act.put, HW.LA, HW.LZ, HW.LS, i64_w, i32_w]
                                    rfl
                                  refine done_ (done_of HT_.out (by kernel_rfl)) ?_
                                  try go_wp2
                                  go_meet
                                  case rel => exact ⟨_, (true), (by first | rfl | (simp; done) | (simp [*]; done)), H', ⟨by have := HJ3.out; have := HK2.out; first | omega | exact Nat.le_refl _⟩, ⟨by (with_reducible repeat (first | apply Kd.V_alloc | apply Kd.V_drewN | apply Kd.V_drew)); exact Kd.V_mono HO_0.out (fun _ hk => hk.1)⟩, ⟨by repeat (first | (with_reducible first | exact HB.out | apply below_alloc | apply pw_below_drewN | apply below_drew1) | exact HB.out)⟩⟩
                                · rw [if_neg c45] at H
                                  have c45b0 : decide ((l0.length : Int) ≤ t192) = false := decide_eq_false c45
                                  clear c45
                                  by_cases c47 : 0 ≤ t172
                                  · rw [if_pos c47] at H
                                    have c47b0 : decide (0 ≤ t172) = true := decide_eq_true c47
                                    clear c47
                                    by_cases c48 : t172 < (l0.length : Int)
                                    · rw [if_pos c48] at H
                                      have c48b0 : decide (t172 < (l0.length : Int)) = true := decide_eq_true c48
                                      clear c48
                                      replace H := Option.bind_eq_some_iff.mp H
                                      obtain ⟨t194, A490, H⟩ := H
                                      replace H : (if 0 ≤ t192 then (if t192 < (y189.length : Int) then ((frame_Rank.f ((rd_T26 y189 t192).f0) ((rd_T26 y189 t192).f1) ((rd_T26 y189 t192).f2) ((rd_T26 y189 t192).f3) ((rd_T26 y189 t192).f4)).bind fun t198 => ((phaetonref01_Same.f k2 t194 t198).bind fun t201 => (phaetontop_TopMany.j2 k2 l0 t168 t172 (!t201)))) else (none)) else (none)) = some r := H
                                      have A49 := Aside0.mk A490
                                      clear A490
                                      by_cases c50 : 0 ≤ t192
                                      · rw [if_pos c50] at H
                                        have c50b0 : decide (0 ≤ t192) = true := decide_eq_true c50
                                        clear c50
                                        by_cases c51 : t192 < (y189.length : Int)
                                        · rw [if_pos c51] at H
                                          have c51b0 : decide (t192 < (y189.length : Int)) = true := decide_eq_true c51
                                          clear c51
                                          replace H := Option.bind_eq_some_iff.mp H
                                          obtain ⟨t198, A520, H⟩ := H
                                          replace H : ((phaetonref01_Same.f k2 t194 t198).bind fun t201 => (phaetontop_TopMany.j2 k2 l0 t168 t172 (!t201))) = some r := H
                                          have A52 := Aside0.mk A520
                                          clear A520
                                          replace H := Option.bind_eq_some_iff.mp H
                                          obtain ⟨t201, A530, H⟩ := H
                                          replace H : (phaetontop_TopMany.j2 k2 l0 t168 t172 (!t201)) = some r := H
                                          have A53 := Aside0.mk A530
                                          clear A530
                                          have H' := Aside0.mk H
                                          clear H
                                          try go_wp2
                                          have n0_ := Aside0.mk (Kd.V_drew HO_0.out)
                                          have n1_ := Aside0.mk (Kd.V_drew HO180.out)
                                          have n2_ := Aside0.mk (Kd.V_drew HO188.out)
                                          have n3_ := Aside0.mk (Kd.N_drew HO191.out)
                                          have n4_ := Aside0.mk (below_drew1 HB.out)
                                          clear HO_0
                                          clear HO180
                                          clear HO188
                                          clear HO191
                                          clear HB
                                          have HO_0 := n0_
                                          have HO180 := n1_
                                          have HO188 := n2_
                                          have HO191 := n3_
                                          have HB := n4_
                                          clear n0_ n1_ n2_ n3_ n4_
                                          have p193 : 0 ≤ (t172 : Int) := of_decide_eq_true (by first | (with_reducible assumption) | assumption)
                                          have q193 : t172 < (l0.length : Int) := of_decide_eq_true (by first | (with_reducible assumption) | assumption)
                                          obtain ⟨ad193, A193_4, c193_4, e193, hx193_0, hx193_1, hx193_2, hx193_3, hx193_4, hl193_4, hi193_4⟩ := at_T26 (Kd.V_reads' HO_0.out).2.2 t172 p193 q193
                                          cases e193
                                          obtain ⟨ce193, hce193, hMe193, hcc193⟩ := Kd.V_get HO_0.out z26 t172 p193 (by first | exact q193 | exact of_decide_eq_true (by first | (with_reducible assumption) | assumption) | (have e_ := (Kd.V_reads' HO_0.out).1; omega))
                                          obtain ⟨ua193_4, uc193_4, rfl, ul193_4, ge193_4⟩ := k26_openF hMe193
                                          have hv193_4 := hcc193 4 _ rfl
                                          rw [add_field _ _ 4 (by omega)] at hv193_4
                                          replace hv193_4 := Option.some.inj (hv193_4.symm.trans hx193_4)
                                          injection hv193_4 with hva_ hvn_ hvc_
                                          rw [hva_] at ge193_4
                                          rw [hvc_] at ul193_4
                                          have HL193_4 := Aside0.mk (show Kd.V (Kd.int .u8) 5 _ w.heap.size _ _ ((rd_T26 l0 t172).f4) from Kd.V_mk ul193_4 ge193_4)
                                          clear hva_ hvn_ hvc_ ge193_4 ul193_4
                                          clear hcc193 hce193
                                          have HR193_4 := Aside0.mk hi193_4
                                          have HC193_4 := Aside0.mk hl193_4
                                          clear hi193_4 hl193_4
                                          replace p193 := eq_true p193
                                          replace q193 := eq_true q193
                                          have p197 : 0 ≤ (t192 : Int) := of_decide_eq_true (by first | (with_reducible assumption) | assumption)
                                          have q197 : t192 < (y189.length : Int) := of_decide_eq_true (by first | (with_reducible assumption) | assumption)
                                          obtain ⟨ad197, A197_4, c197_4, e197, hx197_0, hx197_1, hx197_2, hx197_3, hx197_4, hl197_4, hi197_4⟩ := at_T26 (Kd.N_reads' HO191.out).2.2 t192 p197 q197
                                          cases e197
                                          obtain ⟨ce197, hce197, hMe197, hcc197⟩ := Kd.N_get HO191.out z26 t192 p197 (by first | exact q197 | exact of_decide_eq_true (by first | (with_reducible assumption) | assumption) | (have e_ := (Kd.N_reads' HO191.out).1; omega))
                                          obtain ⟨ua197_4, uc197_4, rfl, ul197_4, ge197_4⟩ := k26_openF hMe197
                                          have hv197_4 := hcc197 4 _ rfl
                                          rw [add_field _ _ 4 (by omega)] at hv197_4
                                          replace hv197_4 := Option.some.inj (hv197_4.symm.trans hx197_4)
                                          injection hv197_4 with hva_ hvn_ hvc_
                                          rw [hva_] at ge197_4
                                          rw [hvc_] at ul197_4
                                          have HL197_4 := Aside0.mk (show Kd.V (Kd.int .u8) 5 _ w.heap.size _ _ ((rd_T26 y189 t192).f4) from Kd.V_mk ul197_4 ge197_4)
                                          clear hva_ hvn_ hvc_ ge197_4 ul197_4
                                          clear hcc197 hce197
                                          have HR197_4 := Aside0.mk hi197_4
                                          have HC197_4 := Aside0.mk hl197_4
                                          clear hi197_4 hl197_4
                                          replace p197 := eq_true p197
                                          replace q197 := eq_true q197
                                          refine start_ (n := 32) (S := fun w' => w'.cell? (ad193.add ((t172).toNat * 5)) = some (.bool ((rd_T26 l0 t172).f0)) ∧ w'.cell? ⟨(ad193.add ((t172).toNat * 5)).block, (ad193.add ((t172).toNat * 5)).off + 1, none⟩ = some (.int .i64 ((rd_T26 l0 t172).f1)) ∧ w'.cell? ⟨(ad193.add ((t172).toNat * 5)).block, (ad193.add ((t172).toNat * 5)).off + 2, none⟩ = some (.bool ((rd_T26 l0 t172).f2)) ∧ w'.cell? ⟨(ad193.add ((t172).toNat * 5)).block, (ad193.add ((t172).toNat * 5)).off + 3, none⟩ = some (.int .i64 ((rd_T26 l0 t172).f3)) ∧ w'.cell? ⟨(ad193.add ((t172).toNat * 5)).block, (ad193.add ((t172).toNat * 5)).off + 4, none⟩ = some (.slice A193_4 ((rd_T26 l0 t172).f4).length c193_4) ∧ w'.cell? (ad197.add ((t192).toNat * 5)) = some (.bool ((rd_T26 y189 t192).f0)) ∧ w'.cell? ⟨(ad197.add ((t192).toNat * 5)).block, (ad197.add ((t192).toNat * 5)).off + 1, none⟩ = some (.int .i64 ((rd_T26 y189 t192).f1)) ∧ w'.cell? ⟨(ad197.add ((t192).toNat * 5)).block, (ad197.add ((t192).toNat * 5)).off + 2, none⟩ = some (.bool ((rd_T26 y189 t192).f2)) ∧ w'.cell? ⟨(ad197.add ((t192).toNat * 5)).block, (ad197.add ((t192).toNat * 5)).off + 3, none⟩ = some (.int .i64 ((rd_T26 y189 t192).f3)) ∧ w'.cell? ⟨(ad197.add ((t192).toNat * 5)).block, (ad197.add ((t192).toNat * 5)).off + 4, none⟩ = some (.slice A197_4 ((rd_T26 y189 t192).f4).length c197_4)) (ds := []) #[false, false, false, false, false, false, false, false, false, false, false, false, false, false, false, false, false, false, false, false, false, false, false, false, false, false, false, false, false, false, false, false] (by kernel_rfl) rfl rfl ⟨hx193_0, hx193_1, hx193_2, hx193_3, hx193_4, hx197_0, hx197_1, hx197_2, hx197_3, hx197_4⟩ (fun hHeld => ?_); refine with_tabW phaetontop_TopMany.tab13 phaetontop_TopMany.bits13 (fun HT_ HW_ => ?_)
                                          generalize w38.drew = w54 at HO_0 HO180 HO188 HO191 HB HL193_4 HL197_4 HR193_4 HR197_4 hx193_0 hx193_1 hx193_2 hx193_3 hx193_4 hx197_0 hx197_1 hx197_2 hx197_3 hx197_4 hHeld ⊢
                                          refine pure_ (i := 0) (N := some 62) (v := ?_) (a' := ?_) (HW.tf 1 31) rfl rfl (any_of HT_.out (by kernel_rfl)) (fun _ _ _ h => h) (Or.inl ⟨by rfl, ?_⟩) ?_ ?_
                                          rotate_left
                                          · intro w'
                                            go_simp
                                            with_reducible rfl
                                          rotate_left
                                          · simp only [Act.put, HW.LA, HW.LZ, HW.LS, i64_w, i32_w]
                                            rfl
                                          refine pure_ (i := 1) (N := some 63) (v := ?_) (a' := ?_) (HW.tf 2 30) rfl rfl (any_of HT_.out (by kernel_rfl)) (fun _ _ _ h => h) (Or.inl ⟨by rfl, ?_⟩) ?_ ?_
                                          rotate_left
                                          · intro w'
                                            go_simp
                                            with_reducible rfl
                                          rotate_left
                                          · simp only [Act.put, HW.LA, HW.LZ, HW.LS, i64_w, i32_w]
                                            rfl
                                          refine pure_ (i := 2) (N := some 64) (v := ?_) (a' := ?_) (HW.tf 3 29) rfl rfl (any_of HT_.out (by kernel_rfl)) (fun _ _ _ h => h) (Or.inl ⟨by rfl, ?_⟩) ?_ ?_
                                          rotate_left
                                          · intro w'
                                            go_simp
                                            with_reducible rfl
                                          rotate_left
                                          · simp only [Act.put, HW.LA, HW.LZ, HW.LS, i64_w, i32_w]
                                            rfl
                                          refine pure_ (i := 3) (N := some 65) (v := ?_) (a' := ?_) (HW.tf 4 28) rfl rfl (any_of HT_.out (by kernel_rfl)) (fun _ _ _ h => h) (Or.inl ⟨by rfl, ?_⟩) ?_ ?_
                                          rotate_left
                                          · intro w'
                                            go_simp
                                            with_reducible rfl
                                          rotate_left
                                          · simp only [Act.put, HW.LA, HW.LZ, HW.LS, i64_w, i32_w]
                                            rfl
                                          refine pure_ (i := 4) (N := some 66) (v := ?_) (a' := ?_) (HW.tf 5 27) rfl rfl (any_of HT_.out (by kernel_rfl)) (fun _ _ _ h => h) (Or.inl ⟨by rfl, ?_⟩) ?_ ?_
                                          rotate_left
                                          · intro w'
                                            go_simp
                                            with_reducible rfl
                                          rotate_left
                                          · simp only [Act.put, HW.LA, HW.LZ, HW.LS, i64_w, i32_w]
                                            rfl
                                          refine pure_ (i := 5) (N := some 67) (v := ?_) (a' := ?_) (HW.tf 6 26) rfl rfl (any_of HT_.out (by kernel_rfl)) (fun _ _ _ h => h) (Or.inl ⟨by rfl, ?_⟩) ?_ ?_
                                          rotate_left
                                          · intro w'
                                            go_simp
                                            with_reducible rfl
                                          rotate_left
                                          · simp only [Act.put, HW.LA, HW.LZ, HW.LS, i64_w, i32_w]
                                            rfl
                                          refine pure_ (i := 6) (N := some 68) (v := ?_) (a' := ?_) (HW.tf 7 25) rfl rfl (any_of HT_.out (by kernel_rfl)) (fun _ _ _ h => h) (Or.inl ⟨by rfl, ?_⟩) ?_ ?_
                                          rotate_left
                                          · intro w'
                                            go_simp
                                            with_reducible rfl
                                          rotate_left
                                          · simp only [Act.put, HW.LA, HW.LZ, HW.LS, i64_w, i32_w]
                                            rfl
                                          refine pure_ (i := 7) (N := some 69) (v := ?_) (a' := ?_) (HW.tf 8 24) rfl rfl (any_of HT_.out (by kernel_rfl)) (fun _ _ _ h => h) (Or.inl ⟨by rfl, ?_⟩) ?_ ?_
                                          rotate_left
                                          · intro w'
                                            go_simp
                                            with_reducible rfl
                                          rotate_left
                                          · simp only [Act.put, HW.LA, HW.LZ, HW.LS, i64_w, i32_w]
                                            rfl
                                          refine pure_ (i := 8) (N := some 70) (v := ?_) (a' := ?_) (HW.tf 9 23) rfl rfl (any_of HT_.out (by kernel_rfl)) (fun _ _ _ h => h) (Or.inl ⟨by rfl, ?_⟩) ?_ ?_
                                          rotate_left
                                          · intro w'
                                            go_simp
                                            with_reducible rfl
                                          rotate_left
                                          · simp only [Act.put, HW.LA, HW.LZ, HW.LS, i64_w, i32_w]
                                            rfl
                                          refine pure_ (i := 9) (N := some 71) (v := ?_) (a' := ?_) (HW.tf 10 22) rfl rfl (any_of HT_.out (by kernel_rfl)) (fun _ _ _ h => h) (Or.inl ⟨by rfl, ?_⟩) ?_ ?_
                                          rotate_left
                                          · intro w'
                                            go_simp
                                            with_reducible rfl
                                          rotate_left
                                          · simp only [Act.put, HW.LA, HW.LZ, HW.LS, i64_w, i32_w]
                                            rfl
                                          refine pure_ (i := 10) (N := some 72) (v := ?_) (a' := ?_) (HW.tf 11 21) rfl rfl (any_of HT_.out (by kernel_rfl)) (fun _ _ _ h => h) (Or.inl ⟨by rfl, ?_⟩) ?_ ?_
                                          rotate_left
                                          · intro w'
                                            go_simp
                                            with_reducible rfl
                                          rotate_left
                                          · simp only [Act.put, HW.LA, HW.LZ, HW.LS, i64_w, i32_w]
                                            rfl
                                          refine pure_ (i := 11) (N := some 73) (v := ?_) (a' := ?_) (HW.tf 12 20) rfl rfl (any_of HT_.out (by kernel_rfl)) (fun _ _ _ h => h) (Or.inl ⟨by rfl, ?_⟩) ?_ ?_
                                          rotate_left
                                          · intro w'
                                            go_simp
                                            with_reducible rfl
                                          rotate_left
                                          · simp only [Act.put, HW.LA, HW.LZ, HW.LS, i64_w, i32_w]
                                            rfl
                                          refine pure_ (i := 12) (N := some 74) (v := ?_) (a' := ?_) (HW.tf 13 19) rfl rfl (any_of HT_.out (by kernel_rfl)) (fun _ _ _ h => h) (Or.inl ⟨by rfl, ?_⟩) ?_ ?_
                                          rotate_left
                                          · intro w'
                                            go_simp
                                            with_reducible rfl
                                          rotate_left
                                          · simp only [Act.put, HW.LA, HW.LZ, HW.LS, i64_w, i32_w]
                                            rfl
                                          refine pure_ (i := 13) (N := some 75) (v := ?_) (a' := ?_) (HW.tf 14 18) rfl rfl (any_of HT_.out (by kernel_rfl)) (fun _ _ _ h => h) (Or.inl ⟨by rfl, ?_⟩) ?_ ?_
                                          rotate_left
                                          · intro w'
                                            go_simp
                                            with_reducible rfl
                                          rotate_left
                                          · simp only [Act.put, HW.LA, HW.LZ, HW.LS, i64_w, i32_w]
                                            rfl
                                          refine pure_ (i := 14) (N := some 76) (v := ?_) (a' := ?_) (HW.tf 15 17) rfl rfl (any_of HT_.out (by kernel_rfl)) (fun _ _ _ h => h) (Or.inl ⟨by rfl, ?_⟩) ?_ ?_
                                          rotate_left
                                          · intro w'
                                            go_simp
                                            with_reducible rfl
                                          rotate_left
                                          · simp only [Act.put, HW.LA, HW.LZ, HW.LS, i64_w, i32_w]
                                            rfl
                                          refine pure_ (i := 15) (N := some 77) (v := ?_) (a' := ?_) (HW.tf 16 16) rfl rfl (any_of HT_.out (by kernel_rfl)) (fun _ _ _ h => h) (Or.inl ⟨by rfl, ?_⟩) ?_ ?_
                                          rotate_left
                                          · intro w'
                                            go_simp
                                            with_reducible rfl
                                          rotate_left
                                          · simp only [Act.put, HW.LA, HW.LZ, HW.LS, i64_w, i32_w]
                                            rfl
                                          refine pure_ (i := 16) (N := some 78) (v := ?_) (a' := ?_) (HW.tf 17 15) rfl rfl (any_of HT_.out (by kernel_rfl)) (fun _ _ _ h => h) (Or.inl ⟨by rfl, ?_⟩) ?_ ?_
                                          rotate_left
                                          · intro w'
                                            go_simp
                                            with_reducible rfl
                                          rotate_left
                                          · simp only [Act.put, HW.LA, HW.LZ, HW.LS, i64_w, i32_w]
                                            rfl
                                          refine pure_ (i := 17) (N := some 79) (v := ?_) (a' := ?_) (HW.tf 18 14) rfl rfl (any_of HT_.out (by kernel_rfl)) (fun _ _ _ h => h) (Or.inl ⟨by rfl, ?_⟩) ?_ ?_
                                          rotate_left
                                          · intro w'
                                            go_simp
                                            with_reducible rfl
                                          rotate_left
                                          · simp only [Act.put, HW.LA, HW.LZ, HW.LS, i64_w, i32_w]
                                            rfl
                                          refine pure_ (i := 18) (N := some 80) (v := ?_) (a' := ?_) (HW.tf 19 13) rfl rfl (any_of HT_.out (by kernel_rfl)) (fun _ _ _ h => h) (Or.inl ⟨by rfl, ?_⟩) ?_ ?_
                                          rotate_left
                                          · intro w'
                                            go_simp
                                            with_reducible rfl
                                          rotate_left
                                          · simp only [Act.put, HW.LA, HW.LZ, HW.LS, i64_w, i32_w]
                                            rfl
                                          refine pure_ (i := 19) (N := some 81) (v := ?_) (a' := ?_) (HW.tf 20 12) rfl rfl (any_of HT_.out (by kernel_rfl)) (fun _ _ _ h => h) (Or.inl ⟨by rfl, ?_⟩) ?_ ?_
                                          rotate_left
                                          · intro w'
                                            go_simp
                                            with_reducible rfl
                                          rotate_left
                                          · simp only [Act.put, HW.LA, HW.LZ, HW.LS, i64_w, i32_w]
                                            rfl
                                          refine pure_ (i := 20) (N := some 82) (v := ?_) (a' := ?_) (HW.tf 21 11) rfl rfl (any_of HT_.out (by kernel_rfl)) (fun _ _ _ h => h) (Or.inl ⟨by rfl, ?_⟩) ?_ ?_
                                          rotate_left
                                          · intro w'
                                            go_simp
                                            with_reducible rfl
                                          rotate_left
                                          · simp only [Act.put, HW.LA, HW.LZ, HW.LS, i64_w, i32_w]
                                            rfl
                                          refine pure_ (i := 21) (N := some 83) (v := ?_) (a' := ?_) (HW.tf 22 10) rfl rfl (any_of HT_.out (by kernel_rfl)) (fun _ _ _ h => h) (Or.inl ⟨by rfl, ?_⟩) ?_ ?_
                                          rotate_left
                                          · intro w'
                                            go_simp
                                            with_reducible rfl
                                          rotate_left
                                          · simp only [Act.put, HW.LA, HW.LZ, HW.LS, i64_w, i32_w]
                                            rfl
                                          refine pure_ (i := 24) (N := some 86) (v := ?_) (a' := ?_) #[true, true, true, true, true, true, true, true, true, true, true, true, true, true, true, true, true, true, true, true, true, true, false, false, true, false, false, false, false, false, false, false] rfl rfl (any_of HT_.out (by kernel_rfl)) (fun _ _ _ h => h) (Or.inl ⟨by rfl, ?_⟩) ?_ ?_
                                          rotate_left
                                          · intro w'
                                            go_simp
                                            with_reducible rfl
                                          rotate_left
                                          · simp only [Act.put, HW.LA, HW.LZ, HW.LS, i64_w, i32_w]
                                            rfl
                                          refine pure_ (i := 25) (N := some 87) (v := ?_) (a' := ?_) #[true, true, true, true, true, true, true, true, true, true, true, true, true, true, true, true, true, true, true, true, true, true, false, false, true, true, false, false, false, false, false, false] rfl rfl (any_of HT_.out (by kernel_rfl)) (fun _ _ _ h => h) (Or.inl ⟨by rfl, ?_⟩) ?_ ?_
                                          rotate_left
                                          · intro w'
                                            go_simp
                                            with_reducible rfl
                                          rotate_left
                                          · simp only [Act.put, HW.LA, HW.LZ, HW.LS, i64_w, i32_w]
                                            rfl
                                          refine pure_ (i := 26) (N := some 88) (v := ?_) (a' := ?_) #[true, true, true, true, true, true, true, true, true, true, true, true, true, true, true, true, true, true, true, true, true, true, false, false, true, true, true, false, false, false, false, false] rfl rfl (any_of HT_.out (by kernel_rfl)) (fun _ _ _ h => h) (Or.inl ⟨by rfl, ?_⟩) ?_ ?_
                                          rotate_left
                                          · intro w'
                                            go_simp
                                            with_reducible rfl
                                          rotate_left
                                          · simp only [Act.put, HW.LA, HW.LZ, HW.LS, i64_w, i32_w]
                                            rfl
                                          refine take_ (i := 22) (N := some 84) (v := ?_) (a' := ?_) #[true, true, true, true, true, true, true, true, true, true, true, true, true, true, true, true, true, true, true, true, true, true, true, false, true, true, true, false, false, false, false, false] rfl rfl (take_ofW HT_.out HW_.out (by kernel_rfl)) (fun _ _ _ h => h) (Or.inl ⟨by rfl, ?_⟩) hHeld ?_ ?_
                                          rotate_left
                                          · rintro w' ⟨s0, s1, s2, s3, s4, s5, s6, s7, s8, s9⟩
                                            go_simp
                                            with_reducible rfl
                                          rotate_left
                                          · simp only [Act.put, HW.LA, HW.LZ, HW.LS, i64_w, i32_w]
                                            rfl
                                          refine take_ (i := 27) (N := some 89) (v := ?_) (a' := ?_) #[true, true, true, true, true, true, true, true, true, true, true, true, true, true, true, true, true, true, true, true, true, true, true, false, true, true, true, true, false, false, false, false] rfl rfl (take_ofW HT_.out HW_.out (by kernel_rfl)) (fun _ _ _ h => h) (Or.inl ⟨by rfl, ?_⟩) hHeld ?_ ?_
                                          rotate_left
                                          · rintro w' ⟨s0, s1, s2, s3, s4, s5, s6, s7, s8, s9⟩
                                            go_simp
                                            with_reducible rfl
                                          rotate_left
                                          · simp only [Act.put, HW.LA, HW.LZ, HW.LS, i64_w, i32_w]
                                            rfl
                                          refine one_ (i := 23) (N := some 85) (HW.tf 28 4) rfl rfl (one_of HT_.out (by kernel_rfl)) (by decide) (fun K hK => ?_)
                                          refine goes_ Try.func10 (by kernel_rfl) rfl #[.agg #[.bool ((rd_T26 l0 t172).f0), .int .i64 ((rd_T26 l0 t172).f1), .bool ((rd_T26 l0 t172).f2), .int .i64 ((rd_T26 l0 t172).f3), .slice A193_4 ((rd_T26 l0 t172).f4).length c193_4]] (by rfl) rfl rfl (by (try simp only [List.map_toArray, List.map_cons, List.map_nil]); first | done | rfl | (simp only [List.length_drop, List.length_take]; rfl)) ?_
                                          with_reducible refine (frame_Rank.calls ((rd_T26 l0 t172).f0) ((rd_T26 l0 t172).f1) ((rd_T26 l0 t172).f2) ((rd_T26 l0 t172).f3) _ _ ((rd_T26 l0 t172).f4) t194 _ ?side1 ?side2 A49.out).mono ?_
                                          (case side1 => repeat (first | exact (by repeat (first | (with_reducible exact HR193_4.out) | (with_reducible refine Kd.C_alloc ?_ _) | (with_reducible refine Kd.C_drewN ?_ _) | (with_reducible refine Kd.C_drew ?_) | exact HR193_4.out)) | (with_reducible refine Kd.C_alloc ?_ _) | (with_reducible refine Kd.C_drewN ?_ _) | (with_reducible refine Kd.C_drew ?_)))
                                          (case side2 => exact HC193_4.out)
                                          rintro e w55 ⟨v195, rfl, ho0, hb⟩
                                          have HS0_ := (hb.cell (World.block_lt_of_cell? _ _ (hHeld.1))).trans (hHeld.1)
                                          have HS1_ := (hb.cell (World.block_lt_of_cell? _ _ (hHeld.2.1))).trans (hHeld.2.1)
                                          have HS2_ := (hb.cell (World.block_lt_of_cell? _ _ (hHeld.2.2.1))).trans (hHeld.2.2.1)
                                          have HS3_ := (hb.cell (World.block_lt_of_cell? _ _ (hHeld.2.2.2.1))).trans (hHeld.2.2.2.1)
                                          have HS4_ := (hb.cell (World.block_lt_of_cell? _ _ (hHeld.2.2.2.2.1))).trans (hHeld.2.2.2.2.1)
                                          have HS5_ := (hb.cell (World.block_lt_of_cell? _ _ (hHeld.2.2.2.2.2.1))).trans (hHeld.2.2.2.2.2.1)
                                          have HS6_ := (hb.cell (World.block_lt_of_cell? _ _ (hHeld.2.2.2.2.2.2.1))).trans (hHeld.2.2.2.2.2.2.1)
                                          have HS7_ := (hb.cell (World.block_lt_of_cell? _ _ (hHeld.2.2.2.2.2.2.2.1))).trans (hHeld.2.2.2.2.2.2.2.1)
                                          have HS8_ := (hb.cell (World.block_lt_of_cell? _ _ (hHeld.2.2.2.2.2.2.2.2.1))).trans (hHeld.2.2.2.2.2.2.2.2.1)
                                          have HS9_ := (hb.cell (World.block_lt_of_cell? _ _ (hHeld.2.2.2.2.2.2.2.2.2))).trans (hHeld.2.2.2.2.2.2.2.2.2)
                                          refine ⟨_, rfl, ?_⟩
                                          have n0_ := Aside0.mk (Kd.V_elder' (by (with_reducible repeat (first | apply Kd.V_alloc | apply Kd.V_drewN | apply Kd.V_drew)); exact HO_0.out) (Kd.R_base ho0) hb)
                                          have n1_ := Aside0.mk (Kd.V_elder' (by (with_reducible repeat (first | apply Kd.V_alloc | apply Kd.V_drewN | apply Kd.V_drew)); exact HO180.out) (Kd.R_base ho0) hb)
                                          have n2_ := Aside0.mk (Kd.V_elder' (by (with_reducible repeat (first | apply Kd.V_alloc | apply Kd.V_drewN | apply Kd.V_drew)); exact HO188.out) (Kd.R_base ho0) hb)
                                          have n3_ := Aside0.mk (Kd.N_elder' (by (with_reducible repeat (first | apply Kd.N_alloc | apply Kd.N_drewN | apply Kd.N_drew)); exact HO191.out) (Kd.R_base ho0) hb)
                                          have n4_ := Aside0.mk (Kd.V_elder' (by (with_reducible repeat (first | apply Kd.V_alloc | apply Kd.V_drewN | apply Kd.V_drew)); exact HL193_4.out) (Kd.R_base ho0) hb)
                                          have n5_ := Aside0.mk (Kd.V_elder' (by (with_reducible repeat (first | apply Kd.V_alloc | apply Kd.V_drewN | apply Kd.V_drew)); exact HL197_4.out) (Kd.R_base ho0) hb)
                                          have n6_ := Aside0.mk (Kd.R_lower (Kd.R_newM (M := fun k_ => (w.heap.size ≤ k_)) ho0 (below_size (by repeat (first | (with_reducible first | exact HB.out | apply below_alloc | apply pw_below_drewN | apply below_drew1) | exact HB.out))) (fun k_ h_ => h_)) (below_size (by repeat (first | (with_reducible first | exact HB.out | apply below_alloc | apply pw_below_drewN | apply below_drew1) | exact HB.out))))
                                          have n7_ := Aside0.mk (Kd.C_below (by repeat (first | (with_reducible exact HR193_4.out) | (with_reducible refine Kd.C_alloc ?_ _) | (with_reducible refine Kd.C_drewN ?_ _) | (with_reducible refine Kd.C_drew ?_) | exact HR193_4.out)) hb)
                                          have n8_ := Aside0.mk (Kd.C_below (by repeat (first | (with_reducible exact HR197_4.out) | (with_reducible refine Kd.C_alloc ?_ _) | (with_reducible refine Kd.C_drewN ?_ _) | (with_reducible refine Kd.C_drew ?_) | exact HR197_4.out)) hb)
                                          have n9_ := Aside0.mk (below_step (by repeat (first | (with_reducible first | exact HB.out | apply below_alloc | apply pw_below_drewN | apply below_drew1) | exact HB.out)) hb)
                                          clear HO_0
                                          clear HO180
                                          clear HO188
                                          clear HO191
                                          clear HL193_4
                                          clear HL197_4
                                          clear HR193_4
                                          clear HR197_4
                                          clear HB
                                          have HO_0 := n0_
                                          have HO180 := n1_
                                          have HO188 := n2_
                                          have HO191 := n3_
                                          have HL193_4 := n4_
                                          have HL197_4 := n5_
                                          have HO196 := n6_
                                          have HR193_4 := n7_
                                          have HR197_4 := n8_
                                          have HB := n9_
                                          clear n0_ n1_ n2_ n3_ n4_ n5_ n6_ n7_ n8_ n9_
                                          (try clear hb)
                                          (try clear hb2)
                                          (try clear hk)
                                          (try clear hi)
                                          (try clear ho0)
                                          refine hK.out _ _ ⟨HS0_, HS1_, HS2_, HS3_, HS4_, HS5_, HS6_, HS7_, HS8_, HS9_⟩ (fun hHeld => ?_)
                                          clear hK K
                                          refine norm_ (a' := ?_) ?_ ?_
                                          rotate_left
                                          · show Act.put _ (some 85) _ = _
                                            simp only [Act.put, HW.LA, HW.LZ, HW.LS, i64_w, i32_w]
                                            rfl
                                          refine one_ (i := 28) (N := some 90) (HW.tf 29 3) rfl rfl (one_of HT_.out (by kernel_rfl)) (by decide) (fun K hK => ?_)
                                          refine goes_ Try.func10 (by kernel_rfl) rfl #[.agg #[.bool ((rd_T26 y189 t192).f0), .int .i64 ((rd_T26 y189 t192).f1), .bool ((rd_T26 y189 t192).f2), .int .i64 ((rd_T26 y189 t192).f3), .slice A197_4 ((rd_T26 y189 t192).f4).length c197_4]] (by rfl) rfl rfl (by (try simp only [List.map_toArray, List.map_cons, List.map_nil]); first | done | rfl | (simp only [List.length_drop, List.length_take]; rfl)) ?_
                                          with_reducible refine (frame_Rank.calls ((rd_T26 y189 t192).f0) ((rd_T26 y189 t192).f1) ((rd_T26 y189 t192).f2) ((rd_T26 y189 t192).f3) _ _ ((rd_T26 y189 t192).f4) t198 _ ?side1 ?side2 A52.out).mono ?_
                                          (case side1 => repeat (first | exact (by repeat (first | (with_reducible exact HR197_4.out) | (with_reducible refine Kd.C_alloc ?_ _) | (with_reducible refine Kd.C_drewN ?_ _) | (with_reducible refine Kd.C_drew ?_) | exact HR197_4.out)) | (with_reducible refine Kd.C_alloc ?_ _) | (with_reducible refine Kd.C_drewN ?_ _) | (with_reducible refine Kd.C_drew ?_)))
                                          (case side2 => exact HC197_4.out)
                                          rintro e w56 ⟨v199, rfl, ho0, hb⟩
                                          have HS0_ := (hb.cell (World.block_lt_of_cell? _ _ (hHeld.1))).trans (hHeld.1)
                                          have HS1_ := (hb.cell (World.block_lt_of_cell? _ _ (hHeld.2.1))).trans (hHeld.2.1)
                                          have HS2_ := (hb.cell (World.block_lt_of_cell? _ _ (hHeld.2.2.1))).trans (hHeld.2.2.1)
                                          have HS3_ := (hb.cell (World.block_lt_of_cell? _ _ (hHeld.2.2.2.1))).trans (hHeld.2.2.2.1)
                                          have HS4_ := (hb.cell (World.block_lt_of_cell? _ _ (hHeld.2.2.2.2.1))).trans (hHeld.2.2.2.2.1)
                                          have HS5_ := (hb.cell (World.block_lt_of_cell? _ _ (hHeld.2.2.2.2.2.1))).trans (hHeld.2.2.2.2.2.1)
                                          have HS6_ := (hb.cell (World.block_lt_of_cell? _ _ (hHeld.2.2.2.2.2.2.1))).trans (hHeld.2.2.2.2.2.2.1)
                                          have HS7_ := (hb.cell (World.block_lt_of_cell? _ _ (hHeld.2.2.2.2.2.2.2.1))).trans (hHeld.2.2.2.2.2.2.2.1)
                                          have HS8_ := (hb.cell (World.block_lt_of_cell? _ _ (hHeld.2.2.2.2.2.2.2.2.1))).trans (hHeld.2.2.2.2.2.2.2.2.1)
                                          have HS9_ := (hb.cell (World.block_lt_of_cell? _ _ (hHeld.2.2.2.2.2.2.2.2.2))).trans (hHeld.2.2.2.2.2.2.2.2.2)
                                          refine ⟨_, rfl, ?_⟩
                                          have n0_ := Aside0.mk (Kd.V_elder' (by (with_reducible repeat (first | apply Kd.V_alloc | apply Kd.V_drewN | apply Kd.V_drew)); exact HO_0.out) (Kd.R_base ho0) hb)
                                          have n1_ := Aside0.mk (Kd.V_elder' (by (with_reducible repeat (first | apply Kd.V_alloc | apply Kd.V_drewN | apply Kd.V_drew)); exact HO180.out) (Kd.R_base ho0) hb)
                                          have n2_ := Aside0.mk (Kd.V_elder' (by (with_reducible repeat (first | apply Kd.V_alloc | apply Kd.V_drewN | apply Kd.V_drew)); exact HO188.out) (Kd.R_base ho0) hb)
                                          have n3_ := Aside0.mk (Kd.N_elder' (by (with_reducible repeat (first | apply Kd.N_alloc | apply Kd.N_drewN | apply Kd.N_drew)); exact HO191.out) (Kd.R_base ho0) hb)
                                          have n4_ := Aside0.mk (Kd.V_elder' (by (with_reducible repeat (first | apply Kd.V_alloc | apply Kd.V_drewN | apply Kd.V_drew)); exact HL193_4.out) (Kd.R_base ho0) hb)
                                          have n5_ := Aside0.mk (Kd.V_elder' (by (with_reducible repeat (first | apply Kd.V_alloc | apply Kd.V_drewN | apply Kd.V_drew)); exact HL197_4.out) (Kd.R_base ho0) hb)
                                          have n6_ := Aside0.mk (Kd.R_elder' (by (with_reducible repeat (first | apply Kd.R_alloc | apply Kd.R_drewN | apply Kd.R_drew)); exact HO196.out) (Kd.R_base ho0) hb)
                                          have n7_ := Aside0.mk (Kd.R_lower (Kd.R_new' (Kd.R_newM (M := fun k_ => (w.heap.size ≤ k_)) ho0 (below_size (by repeat (first | (with_reducible first | exact HB.out | apply below_alloc | apply pw_below_drewN | apply below_drew1) | exact HB.out))) (fun k_ h_ => h_)) (Kd.R_lt (by (with_reducible repeat (first | apply Kd.R_alloc | apply Kd.R_drewN | apply Kd.R_drew)); exact HO196.out))) (below_size (by repeat (first | (with_reducible first | exact HB.out | apply below_alloc | apply pw_below_drewN | apply below_drew1) | exact HB.out))))
                                          have n8_ := Aside0.mk (Kd.C_below (by repeat (first | (with_reducible exact HR193_4.out) | (with_reducible refine Kd.C_alloc ?_ _) | (with_reducible refine Kd.C_drewN ?_ _) | (with_reducible refine Kd.C_drew ?_) | exact HR193_4.out)) hb)
                                          have n9_ := Aside0.mk (Kd.C_below (by repeat (first | (with_reducible exact HR197_4.out) | (with_reducible refine Kd.C_alloc ?_ _) | (with_reducible refine Kd.C_drewN ?_ _) | (with_reducible refine Kd.C_drew ?_) | exact HR197_4.out)) hb)
                                          have n10_ := Aside0.mk (below_step (by repeat (first | (with_reducible first | exact HB.out | apply below_alloc | apply pw_below_drewN | apply below_drew1) | exact HB.out)) hb)
                                          clear HO_0
                                          clear HO180
                                          clear HO188
                                          clear HO191
                                          clear HL193_4
                                          clear HL197_4
                                          clear HO196
                                          clear HR193_4
                                          clear HR197_4
                                          clear HB
                                          have HO_0 := n0_
                                          have HO180 := n1_
                                          have HO188 := n2_
                                          have HO191 := n3_
                                          have HL193_4 := n4_
                                          have HL197_4 := n5_
                                          have HO196 := n6_
                                          have HO200 := n7_
                                          have HR193_4 := n8_
                                          have HR197_4 := n9_
                                          have HB := n10_
                                          clear n0_ n1_ n2_ n3_ n4_ n5_ n6_ n7_ n8_ n9_ n10_
                                          (try clear hb)
                                          (try clear hb2)
                                          (try clear hk)
                                          (try clear hi)
                                          (try clear ho0)
                                          obtain ⟨Ao57, co57, eo57⟩ := Kd.R_slice HO196.out
                                          (first | subst eo57 | (injection eo57 with f1_ f2_ f3_; have f4_ := f1_.symm; have f5_ := f3_.symm; clear f1_ f2_ f3_; subst f4_; subst f5_))
                                          obtain ⟨Ao58, co58, eo58⟩ := Kd.R_slice HO200.out
                                          (first | subst eo58 | (injection eo58 with f1_ f2_ f3_; have f4_ := f1_.symm; have f5_ := f3_.symm; clear f1_ f2_ f3_; subst f4_; subst f5_))
                                          refine hK.out _ _ ⟨HS0_, HS1_, HS2_, HS3_, HS4_, HS5_, HS6_, HS7_, HS8_, HS9_⟩ (fun hHeld => ?_)
                                          clear hK K
                                          refine norm_ (a' := ?_) ?_ ?_
                                          rotate_left
                                          · show Act.put _ (some 90) _ = _
                                            simp only [Act.put, HW.LA, HW.LZ, HW.LS, i64_w, i32_w]
                                            rfl
                                          refine one_ (i := 29) (N := some 91) (HW.tf 30 2) rfl rfl (one_of HT_.out (by kernel_rfl)) (by decide) (fun K hK => ?_)
                                          refine goes_ Try.func9 (by kernel_rfl) rfl #[.slice Ao57 t194.length co57, .slice Ao58 t198.length co58] (by rfl) rfl rfl (by (try simp only [List.map_toArray, List.map_cons, List.map_nil]); first | done | rfl | (simp only [List.length_drop, List.length_take]; rfl)) ?_
                                          with_reducible refine (phaetonref01_Same.calls k2 _ _ t194 _ _ t198 t201 _ ?side1 ?side2 ?side3 ?side4 A53.out).mono ?_
                                          (case side1 => repeat (first | exact (Kd.R_reads' HO196.out).2.2 | (with_reducible refine Kd.C_alloc ?_ _) | (with_reducible refine Kd.C_drewN ?_ _) | (with_reducible refine Kd.C_drew ?_)))
                                          (case side2 => exact (Kd.R_reads' HO196.out).2.1)
                                          (case side3 => repeat (first | exact (Kd.R_reads' HO200.out).2.2 | (with_reducible refine Kd.C_alloc ?_ _) | (with_reducible refine Kd.C_drewN ?_ _) | (with_reducible refine Kd.C_drew ?_)))
                                          (case side4 => exact (Kd.R_reads' HO200.out).2.1)
                                          rintro e w' ⟨rfl, ⟨nd, rfl⟩⟩
                                          refine ⟨_, rfl, ?_⟩
                                          refine hK.out _ _ ⟨hHeld.1, hHeld.2.1, hHeld.2.2.1, hHeld.2.2.2.1, hHeld.2.2.2.2.1, hHeld.2.2.2.2.2.1, hHeld.2.2.2.2.2.2.1, hHeld.2.2.2.2.2.2.2.1, hHeld.2.2.2.2.2.2.2.2.1, hHeld.2.2.2.2.2.2.2.2.2⟩ (fun hHeld => ?_)
                                          clear hK K
                                          refine norm_ (a' := ?_) ?_ ?_
                                          rotate_left
                                          · show Act.put _ (some 91) _ = _
                                            simp only [Act.put, HW.LA, HW.LZ, HW.LS, i64_w, i32_w]
                                            rfl
                                          refine pure_ (i := 30) (N := some 92) (v := ?_) (a' := ?_) (HW.tf 31 1) rfl rfl (any_of HT_.out (by kernel_rfl)) (fun _ _ _ h => h) (Or.inl ⟨by rfl, ?_⟩) ?_ ?_
                                          rotate_left
                                          · intro w'
                                            go_simp
                                            with_reducible rfl
                                          rotate_left
                                          · simp only [Act.put, HW.LA, HW.LZ, HW.LS, i64_w, i32_w]
                                            rfl
                                          refine pure_ (i := 31) (N := some 93) (v := ?_) (a' := ?_) (HW.tf 32 0) rfl rfl (any_of HT_.out (by kernel_rfl)) (fun _ _ _ h => h) (Or.inl ⟨by rfl, ?_⟩) ?_ ?_
                                          rotate_left
                                          · intro w'
                                            go_simp
                                            with_reducible rfl
                                          rotate_left
                                          · simp only [Act.put, HW.LA, HW.LZ, HW.LS, i64_w, i32_w]
                                            rfl
                                          refine done_ (done_of HT_.out (by kernel_rfl)) ?_
                                          try go_wp2
                                          go_meet
                                          case rel => exact ⟨_, (!t201), (by first | rfl | (simp; done) | (simp [*]; done)), H', ⟨by have := HJ3.out; have := HK2.out; first | omega | exact Nat.le_refl _⟩, ⟨by (with_reducible repeat (first | apply Kd.V_alloc | apply Kd.V_drewN | apply Kd.V_drew)); exact Kd.V_mono HO_0.out (fun _ hk => hk.1.1.1)⟩, ⟨by repeat (first | (with_reducible first | exact HB.out | apply below_alloc | apply pw_below_drewN | apply below_drew1) | exact HB.out)⟩⟩
                                        · rw [if_neg c51] at H
                                          exact absurd H (by simp)
                                      · rw [if_neg c50] at H
                                        exact absurd H (by simp)
                                    · exfalso; (try simp only [decide_eq_true_eq, decide_eq_false_iff_not, beq_iff_eq, beq_eq_false_iff_ne, ne_eq] at c41b0); omega
                                  · rw [if_neg c47] at H
                                    exact absurd H (by simp)
                        case rest => as_aux_lemma =>
                          clear HC28
                          try clear c1
                          try clear p1
                          try clear q1
                          try clear hx1
                          try clear p2
                          try clear c4
                          try clear c5
                          try clear c9
                          try clear c10
                          try clear c19
                          try clear p19
                          try clear q19
                          try clear hx19
                          try clear c45
                          try clear c45b0
                          try clear c47
                          try clear c47b0
                          try clear c48
                          try clear c48b0
                          try clear c50
                          try clear c50b0
                          try clear c51
                          try clear c51b0
                          try clear hx193_0
                          try clear hx193_1
                          try clear hx193_2
                          try clear hx193_3
                          try clear hx193_4
                          try clear hx197_0
                          try clear hx197_1
                          try clear hx197_2
                          try clear hx197_3
                          try clear hx197_4
                          try clear p193
                          try clear p197
                          try clear q193
                          try clear q197
                          obtain ⟨kq, x93_27, rfl, HA, HJ27, HO_0, HB⟩ := hcut
                          cases kq with
                          | zero => exact absurd HA.out (by simp [phaetontop_TopMany.j2])
                          | succ kj27 =>
                            have H := HA.out
                            clear HA
                            simp only [phaetontop_TopMany.j2] at H
                            by_cases c59 : x93_27 = true
                            · subst c59
                              have H1 : (none) = some r := by rw [if_pos rfl] at H; exact H
                              clear H
                              have H := H1
                              clear H1
                              exact absurd H (by simp)
                            · replace c59 := Bool.eq_false_iff.mpr c59
                              subst c59
                              have H1 : (phaetontop_TopMany.l1 kj27 l0 t168 t172 0) = some r := by rw [if_neg (show ¬ (false = true) by decide)] at H; exact H
                              clear H
                              have H := H1
                              clear H1
                              have H' := Aside0.mk H
                              clear H
                              go_wp2
                              go_loopg [11] kj27 (fun kq v11 w' => ∃ (x11_4 : Int), v11 = .int .i64 x11_4 ∧ Aside0 (phaetontop_TopMany.l1 kq l0 t168 t172 x11_4 = some r) ∧ Aside0 (kq ≤ kj27) ∧ Aside0 (Kd.V k26 26 w' w.heap.size (fun k_ => (P0_ k_ ∨ w.heap.size ≤ k_)) (.slice A0 l0.length c0) l0) ∧ Aside0 (Below w.heap.size w w'))
                              case atStart => exact ⟨(0), (by first | rfl | (simp; done) | (simp [*]; done)), H', ⟨Nat.le_refl _⟩, ⟨by (with_reducible repeat (first | apply Kd.V_alloc | apply Kd.V_drewN | apply Kd.V_drew)); exact HO_0.out⟩, ⟨by repeat (first | (with_reducible first | exact HB.out | apply below_alloc | apply pw_below_drewN | apply below_drew1) | exact HB.out)⟩⟩
                              case round =>
                                clear H'
                                try clear c1
                                try clear p1
                                try clear q1
                                try clear hx1
                                try clear p2
                                try clear c4
                                try clear c5
                                try clear c9
                                try clear c10
                                try clear c19
                                try clear p19
                                try clear q19
                                try clear hx19
                                try clear c45
                                try clear c45b0
                                try clear c47
                                try clear c47b0
                                try clear c48
                                try clear c48b0
                                try clear c50
                                try clear c50b0
                                try clear c51
                                try clear c51b0
                                try clear c59
                                try clear hx193_0
                                try clear hx193_1
                                try clear hx193_2
                                try clear hx193_3
                                try clear hx193_4
                                try clear hx197_0
                                try clear hx197_1
                                try clear hx197_2
                                try clear hx197_3
                                try clear hx197_4
                                try clear p1
                                try clear p19
                                try clear p193
                                try clear p197
                                try clear p2
                                try clear q1
                                try clear q19
                                try clear q193
                                try clear q197
                                obtain ⟨x11_4, rfl, HA, HK4, HO_0, HB⟩ := hrel
                                cases gk with
                                | zero => exact absurd HA.out (by simp [phaetontop_TopMany.l1])
                                | succ k4 =>
                                  have H := HA.out
                                  clear HA
                                  simp only [phaetontop_TopMany.l1] at H
                                  by_cases c60 : x11_4 < (l0.length : Int)
                                  · rw [if_pos c60] at H
                                    have c60b0 : decide (x11_4 < (l0.length : Int)) = true := decide_eq_true c60
                                    clear c60
                                    by_cases c61 : 0 ≤ t172
                                    · rw [if_pos c61] at H
                                      have c61b0 : decide (0 ≤ t172) = true := decide_eq_true c61
                                      clear c61
                                      by_cases c62 : t172 < (l0.length : Int)
                                      · rw [if_pos c62] at H
                                        have c62b0 : decide (t172 < (l0.length : Int)) = true := decide_eq_true c62
                                        clear c62
                                        by_cases c63 : 0 ≤ x11_4
                                        · rw [if_pos c63] at H
                                          have c63b0 : decide (0 ≤ x11_4) = true := decide_eq_true c63
                                          clear c63
                                          obtain ⟨y204, hy204⟩ : ∃ y_ : List (S26), y_ = (([(⟨(rd_T26 l0 t172).f0, (rd_T26 l0 t172).f1, (rd_T26 l0 t172).f2, (rd_T26 l0 t172).f3, (rd_T26 l0 t172).f4⟩ : S26), (⟨(rd_T26 l0 x11_4).f0, (rd_T26 l0 x11_4).f1, (rd_T26 l0 x11_4).f2, (rd_T26 l0 x11_4).f3, (rd_T26 l0 x11_4).f4⟩ : S26)] : List (S26))) := ⟨_, rfl⟩
                                          replace H : ((arb_Win.f y204).bind fun t207 => (if t207 = 0 then (phaetontop_TopMany.l1 k4 l0 t168 t172 (wrap64 (x11_4 + 1))) else (none))) = some r := by first | (rw [hy204]; with_reducible exact H) | (have H2_ := (Option.bind_some _ _).symm.trans H; rw [hy204]; with_reducible exact H2_) | (have H2_ := (Option.bind_some _ _).symm.trans H; with_reducible exact H2_) | with_reducible exact H | (rw [hy204]; exact H) | exact H
                                          have Ny204 := Aside0.mk hy204
                                          clear hy204
                                          replace H := Option.bind_eq_some_iff.mp H
                                          obtain ⟨t207, A640, H⟩ := H
                                          replace H : (if t207 = 0 then (phaetontop_TopMany.l1 k4 l0 t168 t172 (wrap64 (x11_4 + 1))) else (none)) = some r := H
                                          have A64 := Aside0.mk A640
                                          clear A640
                                          by_cases c65 : t207 = 0
                                          · rw [if_pos c65] at H
                                            have c65b0 : (t207 == 0) = true := beq_iff_eq.mpr c65
                                            have c65b1 : (t207 != 0) = false := bne_eq_false_iff_eq.mpr c65
                                            clear c65
                                            have H' := Aside0.mk H
                                            clear H
                                            try go_wp2
                                            have n0_ := Aside0.mk (Kd.V_drew HO_0.out)
                                            have n1_ := Aside0.mk (below_drew1 HB.out)
                                            clear HO_0
                                            clear HB
                                            have HO_0 := n0_
                                            have HB := n1_
                                            clear n0_ n1_
                                            have p202 : 0 ≤ (t172 : Int) := of_decide_eq_true (by first | (with_reducible assumption) | assumption)
                                            have q202 : t172 < (l0.length : Int) := of_decide_eq_true (by first | (with_reducible assumption) | assumption)
                                            obtain ⟨ad202, A202_4, c202_4, e202, hx202_0, hx202_1, hx202_2, hx202_3, hx202_4, hl202_4, hi202_4⟩ := at_T26 (Kd.V_reads' HO_0.out).2.2 t172 p202 q202
                                            cases e202
                                            obtain ⟨ce202, hce202, hMe202, hcc202⟩ := Kd.V_get HO_0.out z26 t172 p202 (by first | exact q202 | exact of_decide_eq_true (by first | (with_reducible assumption) | assumption) | (have e_ := (Kd.V_reads' HO_0.out).1; omega))
                                            obtain ⟨ua202_4, uc202_4, rfl, ul202_4, ge202_4⟩ := k26_openF hMe202
                                            have hv202_4 := hcc202 4 _ rfl
                                            rw [add_field _ _ 4 (by omega)] at hv202_4
                                            replace hv202_4 := Option.some.inj (hv202_4.symm.trans hx202_4)
                                            injection hv202_4 with hva_ hvn_ hvc_
                                            rw [hva_] at ge202_4
                                            rw [hvc_] at ul202_4
                                            have HL202_4 := Aside0.mk (show Kd.V (Kd.int .u8) 5 _ w.heap.size _ _ ((rd_T26 l0 t172).f4) from Kd.V_mk ul202_4 ge202_4)
                                            clear hva_ hvn_ hvc_ ge202_4 ul202_4
                                            clear hcc202 hce202
                                            have HR202_4 := Aside0.mk hi202_4
                                            have HC202_4 := Aside0.mk hl202_4
                                            clear hi202_4 hl202_4
                                            replace p202 := eq_true p202
                                            replace q202 := eq_true q202
                                            have p203 : 0 ≤ (x11_4 : Int) := of_decide_eq_true (by first | (with_reducible assumption) | assumption)
                                            have q203 : x11_4 < (l0.length : Int) := of_decide_eq_true (by first | (with_reducible assumption) | assumption)
                                            obtain ⟨ad203, A203_4, c203_4, e203, hx203_0, hx203_1, hx203_2, hx203_3, hx203_4, hl203_4, hi203_4⟩ := at_T26 (Kd.V_reads' HO_0.out).2.2 x11_4 p203 q203
                                            obtain rfl : ad202 = ad203 := (by injection e203)
                                            obtain ⟨ce203, hce203, hMe203, hcc203⟩ := Kd.V_get HO_0.out z26 x11_4 p203 (by first | exact q203 | exact of_decide_eq_true (by first | (with_reducible assumption) | assumption) | (have e_ := (Kd.V_reads' HO_0.out).1; omega))
                                            obtain ⟨ua203_4, uc203_4, rfl, ul203_4, ge203_4⟩ := k26_openF hMe203
                                            have hv203_4 := hcc203 4 _ rfl
                                            rw [add_field _ _ 4 (by omega)] at hv203_4
                                            replace hv203_4 := Option.some.inj (hv203_4.symm.trans hx203_4)
                                            injection hv203_4 with hva_ hvn_ hvc_
                                            rw [hva_] at ge203_4
                                            rw [hvc_] at ul203_4
                                            have HL203_4 := Aside0.mk (show Kd.V (Kd.int .u8) 5 _ w.heap.size _ _ ((rd_T26 l0 x11_4).f4) from Kd.V_mk ul203_4 ge203_4)
                                            clear hva_ hvn_ hvc_ ge203_4 ul203_4
                                            clear hcc203 hce203
                                            have HR203_4 := Aside0.mk hi203_4
                                            have HC203_4 := Aside0.mk hl203_4
                                            clear hi203_4 hl203_4
                                            replace p203 := eq_true p203
                                            replace q203 := eq_true q203
                                            refine start_ (n := 11) (S := fun w' => w'.cell? (ad202.add ((t172).toNat * 5)) = some (.bool ((rd_T26 l0 t172).f0)) ∧ w'.cell? ⟨(ad202.add ((t172).toNat * 5)).block, (ad202.add ((t172).toNat * 5)).off + 1, none⟩ = some (.int .i64 ((rd_T26 l0 t172).f1)) ∧ w'.cell? ⟨(ad202.add ((t172).toNat * 5)).block, (ad202.add ((t172).toNat * 5)).off + 2, none⟩ = some (.bool ((rd_T26 l0 t172).f2)) ∧ w'.cell? ⟨(ad202.add ((t172).toNat * 5)).block, (ad202.add ((t172).toNat * 5)).off + 3, none⟩ = some (.int .i64 ((rd_T26 l0 t172).f3)) ∧ w'.cell? ⟨(ad202.add ((t172).toNat * 5)).block, (ad202.add ((t172).toNat * 5)).off + 4, none⟩ = some (.slice A202_4 ((rd_T26 l0 t172).f4).length c202_4) ∧ w'.cell? (ad202.add ((x11_4).toNat * 5)) = some (.bool ((rd_T26 l0 x11_4).f0)) ∧ w'.cell? ⟨(ad202.add ((x11_4).toNat * 5)).block, (ad202.add ((x11_4).toNat * 5)).off + 1, none⟩ = some (.int .i64 ((rd_T26 l0 x11_4).f1)) ∧ w'.cell? ⟨(ad202.add ((x11_4).toNat * 5)).block, (ad202.add ((x11_4).toNat * 5)).off + 2, none⟩ = some (.bool ((rd_T26 l0 x11_4).f2)) ∧ w'.cell? ⟨(ad202.add ((x11_4).toNat * 5)).block, (ad202.add ((x11_4).toNat * 5)).off + 3, none⟩ = some (.int .i64 ((rd_T26 l0 x11_4).f3)) ∧ w'.cell? ⟨(ad202.add ((x11_4).toNat * 5)).block, (ad202.add ((x11_4).toNat * 5)).off + 4, none⟩ = some (.slice A203_4 ((rd_T26 l0 x11_4).f4).length c203_4)) (ds := []) #[false, false, false, false, false, false, false, false, false, false, false] (by kernel_rfl) rfl rfl ⟨hx202_0, hx202_1, hx202_2, hx202_3, hx202_4, hx203_0, hx203_1, hx203_2, hx203_3, hx203_4⟩ (fun hHeld => ?_); refine with_tabW phaetontop_TopMany.tab18 phaetontop_TopMany.bits18 (fun HT_ HW_ => ?_)
                                            generalize wr.drew = w66 at HO_0 HB HL202_4 HL203_4 HR202_4 HR203_4 hx202_0 hx202_1 hx202_2 hx202_3 hx202_4 hx203_0 hx203_1 hx203_2 hx203_3 hx203_4 hHeld ⊢
                                            refine pure_ (i := 0) (N := some 100) (v := ?_) (a' := ?_) (HW.tf 1 10) rfl rfl (any_of HT_.out (by kernel_rfl)) (fun _ _ _ h => h) (Or.inl ⟨by rfl, ?_⟩) ?_ ?_
                                            rotate_left
                                            · intro w'
                                              go_simp
                                              with_reducible rfl
                                            rotate_left
                                            · simp only [Act.put, HW.LA, HW.LZ, HW.LS, i64_w, i32_w]
                                              rfl
                                            refine pure_ (i := 1) (N := some 101) (v := ?_) (a' := ?_) (HW.tf 2 9) rfl rfl (any_of HT_.out (by kernel_rfl)) (fun _ _ _ h => h) (Or.inl ⟨by rfl, ?_⟩) ?_ ?_
                                            rotate_left
                                            · intro w'
                                              go_simp
                                              with_reducible rfl
                                            rotate_left
                                            · simp only [Act.put, HW.LA, HW.LZ, HW.LS, i64_w, i32_w]
                                              rfl
                                            refine pure_ (i := 2) (N := some 102) (v := ?_) (a' := ?_) (HW.tf 3 8) rfl rfl (any_of HT_.out (by kernel_rfl)) (fun _ _ _ h => h) (Or.inl ⟨by rfl, ?_⟩) ?_ ?_
                                            rotate_left
                                            · intro w'
                                              go_simp
                                              with_reducible rfl
                                            rotate_left
                                            · simp only [Act.put, HW.LA, HW.LZ, HW.LS, i64_w, i32_w]
                                              rfl
                                            refine pure_ (i := 4) (N := some 104) (v := ?_) (a' := ?_) #[true, true, true, false, true, false, false, false, false, false, false] rfl rfl (any_of HT_.out (by kernel_rfl)) (fun _ _ _ h => h) (Or.inl ⟨by rfl, ?_⟩) ?_ ?_
                                            rotate_left
                                            · intro w'
                                              go_simp
                                              with_reducible rfl
                                            rotate_left
                                            · simp only [Act.put, HW.LA, HW.LZ, HW.LS, i64_w, i32_w]
                                              rfl
                                            refine pure_ (i := 5) (N := some 105) (v := ?_) (a' := ?_) #[true, true, true, false, true, true, false, false, false, false, false] rfl rfl (any_of HT_.out (by kernel_rfl)) (fun _ _ _ h => h) (Or.inl ⟨by rfl, ?_⟩) ?_ ?_
                                            rotate_left
                                            · intro w'
                                              go_simp
                                              with_reducible rfl
                                            rotate_left
                                            · simp only [Act.put, HW.LA, HW.LZ, HW.LS, i64_w, i32_w]
                                              rfl
                                            refine pure_ (i := 6) (N := some 106) (v := ?_) (a' := ?_) #[true, true, true, false, true, true, true, false, false, false, false] rfl rfl (any_of HT_.out (by kernel_rfl)) (fun _ _ _ h => h) (Or.inl ⟨by rfl, ?_⟩) ?_ ?_
                                            rotate_left
                                            · intro w'
                                              go_simp
                                              with_reducible rfl
                                            rotate_left
                                            · simp only [Act.put, HW.LA, HW.LZ, HW.LS, i64_w, i32_w]
                                              rfl
                                            refine take_ (i := 3) (N := some 103) (v := ?_) (a' := ?_) (HW.tf 7 4) rfl rfl (take_ofW HT_.out HW_.out (by kernel_rfl)) (fun _ _ _ h => h) (Or.inl ⟨by rfl, ?_⟩) hHeld ?_ ?_
                                            rotate_left
                                            · rintro w' ⟨s0, s1, s2, s3, s4, s5, s6, s7, s8, s9⟩
                                              go_simp
                                              with_reducible rfl
                                            rotate_left
                                            · simp only [Act.put, HW.LA, HW.LZ, HW.LS, i64_w, i32_w]
                                              rfl
                                            refine take_ (i := 7) (N := some 107) (v := ?_) (a' := ?_) (HW.tf 8 3) rfl rfl (take_ofW HT_.out HW_.out (by kernel_rfl)) (fun _ _ _ h => h) (Or.inl ⟨by rfl, ?_⟩) hHeld ?_ ?_
                                            rotate_left
                                            · rintro w' ⟨s0, s1, s2, s3, s4, s5, s6, s7, s8, s9⟩
                                              go_simp
                                              with_reducible rfl
                                            rotate_left
                                            · simp only [Act.put, HW.LA, HW.LZ, HW.LS, i64_w, i32_w]
                                              rfl
                                            refine one_ (i := 8) (N := some 108) (HW.tf 9 2) rfl rfl (one_of HT_.out (by kernel_rfl)) (by decide) (fun K hK => ?_)
                                            refine Kd.N_lit_step k26 _ 26 ?hg (N' := 108) ?hd (xs := ([(⟨(rd_T26 l0 t172).f0, (rd_T26 l0 t172).f1, (rd_T26 l0 t172).f2, (rd_T26 l0 t172).f3, (rd_T26 l0 t172).f4⟩ : S26), (⟨(rd_T26 l0 x11_4).f0, (rd_T26 l0 x11_4).f1, (rd_T26 l0 x11_4).f2, (rd_T26 l0 x11_4).f3, (rd_T26 l0 x11_4).f4⟩ : S26)] : List (S26))) (inner := [.bool ((rd_T26 l0 t172).f0), .int .i64 ((rd_T26 l0 t172).f1), .bool ((rd_T26 l0 t172).f2), .int .i64 ((rd_T26 l0 t172).f3), .slice A202_4 ((rd_T26 l0 t172).f4).length c202_4, .bool ((rd_T26 l0 x11_4).f0), .int .i64 ((rd_T26 l0 x11_4).f1), .bool ((rd_T26 l0 x11_4).f2), .int .i64 ((rd_T26 l0 x11_4).f3), .slice A203_4 ((rd_T26 l0 x11_4).f4).length c203_4]) (ok := (fun k_ => (P0_ k_ ∨ w.heap.size ≤ k_))) (okp := (fun k_ => (P0_ k_ ∨ w.heap.size ≤ k_))) ?hr ?hp (fun _ hk => hk) ((show ∀ k_, w66.heap.size ≤ k_ → (fun k_ => (P0_ k_ ∨ w.heap.size ≤ k_)) k_ from fun k_ hk => (.inr (Nat.le_trans (below_size (by repeat (first | (with_reducible first | exact HB.out | apply below_alloc | apply pw_below_drewN | apply below_drew1) | exact HB.out))) hk))) _ (Nat.le_refl _)) (Below.refl _ _) (Nat.le_refl _) (by simp) ?_; (case hd => rfl); (case hg => rfl); (case hr => exact lit_run _ rfl rfl rfl); (case hp => exact (Reps.c5 (show Kd.FK k26 _ _ (⟨(rd_T26 l0 t172).f0, (rd_T26 l0 t172).f1, (rd_T26 l0 t172).f2, (rd_T26 l0 t172).f3, (rd_T26 l0 t172).f4⟩ : S26) [.bool ((rd_T26 l0 t172).f0), .int .i64 ((rd_T26 l0 t172).f1), .bool ((rd_T26 l0 t172).f2), .int .i64 ((rd_T26 l0 t172).f3), .slice A202_4 ((rd_T26 l0 t172).f4).length c202_4] from (k26_mkF _ _ (⟨(rd_T26 l0 t172).f0, (rd_T26 l0 t172).f1, (rd_T26 l0 t172).f2, (rd_T26 l0 t172).f3, (rd_T26 l0 t172).f4⟩ : S26) (Kd.V_reads' (Kd.V_mono (ok' := (fun k_ => (P0_ k_ ∨ w.heap.size ≤ k_))) (HL202_4.out) (fun k_ hk => hk))).2.1 (Kd.V_F (Kd.V_mono (ok' := (fun k_ => (P0_ k_ ∨ w.heap.size ≤ k_))) (HL202_4.out) (fun k_ hk => hk))))) (Reps.c5 (show Kd.FK k26 _ _ (⟨(rd_T26 l0 x11_4).f0, (rd_T26 l0 x11_4).f1, (rd_T26 l0 x11_4).f2, (rd_T26 l0 x11_4).f3, (rd_T26 l0 x11_4).f4⟩ : S26) [.bool ((rd_T26 l0 x11_4).f0), .int .i64 ((rd_T26 l0 x11_4).f1), .bool ((rd_T26 l0 x11_4).f2), .int .i64 ((rd_T26 l0 x11_4).f3), .slice A203_4 ((rd_T26 l0 x11_4).f4).length c203_4] from (k26_mkF _ _ (⟨(rd_T26 l0 x11_4).f0, (rd_T26 l0 x11_4).f1, (rd_T26 l0 x11_4).f2, (rd_T26 l0 x11_4).f3, (rd_T26 l0 x11_4).f4⟩ : S26) (Kd.V_reads' (Kd.V_mono (ok' := (fun k_ => (P0_ k_ ∨ w.heap.size ≤ k_))) (HL203_4.out) (fun k_ hk => hk))).2.1 (Kd.V_F (Kd.V_mono (ok' := (fun k_ => (P0_ k_ ∨ w.heap.size ≤ k_))) (HL203_4.out) (fun k_ hk => hk))))) (Reps.none _ _))))
                                            intro v205 w67 ho68 hb hg_ hnew_
                                            have HS0_ := (hb.cell (World.block_lt_of_cell? _ _ (hHeld.1))).trans (hHeld.1)
                                            have HS1_ := (hb.cell (World.block_lt_of_cell? _ _ (hHeld.2.1))).trans (hHeld.2.1)
                                            have HS2_ := (hb.cell (World.block_lt_of_cell? _ _ (hHeld.2.2.1))).trans (hHeld.2.2.1)
                                            have HS3_ := (hb.cell (World.block_lt_of_cell? _ _ (hHeld.2.2.2.1))).trans (hHeld.2.2.2.1)
                                            have HS4_ := (hb.cell (World.block_lt_of_cell? _ _ (hHeld.2.2.2.2.1))).trans (hHeld.2.2.2.2.1)
                                            have HS5_ := (hb.cell (World.block_lt_of_cell? _ _ (hHeld.2.2.2.2.2.1))).trans (hHeld.2.2.2.2.2.1)
                                            have HS6_ := (hb.cell (World.block_lt_of_cell? _ _ (hHeld.2.2.2.2.2.2.1))).trans (hHeld.2.2.2.2.2.2.1)
                                            have HS7_ := (hb.cell (World.block_lt_of_cell? _ _ (hHeld.2.2.2.2.2.2.2.1))).trans (hHeld.2.2.2.2.2.2.2.1)
                                            have HS8_ := (hb.cell (World.block_lt_of_cell? _ _ (hHeld.2.2.2.2.2.2.2.2.1))).trans (hHeld.2.2.2.2.2.2.2.2.1)
                                            have HS9_ := (hb.cell (World.block_lt_of_cell? _ _ (hHeld.2.2.2.2.2.2.2.2.2))).trans (hHeld.2.2.2.2.2.2.2.2.2)
                                            clear hg_ hnew_
                                            (first | rw [← Ny204.out] at ho68 | (simp only [Int.reduceToNat] at ho68; rw [← Ny204.out] at ho68))
                                            have n0_ := Aside0.mk (Kd.V_elder' (by (with_reducible repeat (first | apply Kd.V_alloc | apply Kd.V_drewN | apply Kd.V_drew)); exact HO_0.out) (Kd.N_base ho68) hb)
                                            have n1_ := Aside0.mk (Kd.V_elder' (by (with_reducible repeat (first | apply Kd.V_alloc | apply Kd.V_drewN | apply Kd.V_drew)); exact HL202_4.out) (Kd.N_base ho68) hb)
                                            have n2_ := Aside0.mk (Kd.V_elder' (by (with_reducible repeat (first | apply Kd.V_alloc | apply Kd.V_drewN | apply Kd.V_drew)); exact HL203_4.out) (Kd.N_base ho68) hb)
                                            have n3_ := Aside0.mk (Kd.N_lower ho68 (below_size (by repeat (first | (with_reducible first | exact HB.out | apply below_alloc | apply pw_below_drewN | apply below_drew1) | exact HB.out))))
                                            have n4_ := Aside0.mk (Kd.C_below (by repeat (first | (with_reducible exact HR202_4.out) | (with_reducible refine Kd.C_alloc ?_ _) | (with_reducible refine Kd.C_drewN ?_ _) | (with_reducible refine Kd.C_drew ?_) | exact HR202_4.out)) hb)
                                            have n5_ := Aside0.mk (Kd.C_below (by repeat (first | (with_reducible exact HR203_4.out) | (with_reducible refine Kd.C_alloc ?_ _) | (with_reducible refine Kd.C_drewN ?_ _) | (with_reducible refine Kd.C_drew ?_) | exact HR203_4.out)) hb)
                                            have n6_ := Aside0.mk (below_step (by repeat (first | (with_reducible first | exact HB.out | apply below_alloc | apply pw_below_drewN | apply below_drew1) | exact HB.out)) hb)
                                            clear HO_0
                                            clear HL202_4
                                            clear HL203_4
                                            clear HR202_4
                                            clear HR203_4
                                            clear HB
                                            have HO_0 := n0_
                                            have HL202_4 := n1_
                                            have HL203_4 := n2_
                                            have HO206 := n3_
                                            have HR202_4 := n4_
                                            have HR203_4 := n5_
                                            have HB := n6_
                                            clear n0_ n1_ n2_ n3_ n4_ n5_ n6_
                                            clear hb ho68
                                            obtain ⟨Ao69, co69, eo69⟩ := Kd.N_slice HO206.out
                                            (first | subst eo69 | (injection eo69 with f1_ f2_ f3_; have f4_ := f1_.symm; have f5_ := f3_.symm; clear f1_ f2_ f3_; subst f4_; subst f5_))
                                            refine hK.out _ _ ⟨HS0_, HS1_, HS2_, HS3_, HS4_, HS5_, HS6_, HS7_, HS8_, HS9_⟩ (fun hHeld => ?_)
                                            clear hK K
                                            refine norm_ (a' := ?_) ?_ ?_
                                            rotate_left
                                            · show Act.put _ (some 108) _ = _
                                              simp only [Act.put, HW.LA, HW.LZ, HW.LS, i64_w, i32_w]
                                              rfl
                                            refine one_ (i := 9) (N := some 109) (HW.tf 10 1) rfl rfl (one_of HT_.out (by kernel_rfl)) (by decide) (fun K hK => ?_)
                                            refine goes_ Try.func8 (by kernel_rfl) rfl #[.slice Ao69 y204.length co69] (by rfl) rfl rfl (by (try simp only [List.map_toArray, List.map_cons, List.map_nil]); first | done | rfl | (simp only [List.length_drop, List.length_take]; rfl)) ?_
                                            with_reducible refine (arb_Win.calls _ _ y204 t207 _ ?side1 ?side2 A64.out).mono ?_
                                            (case side1 => repeat (first | exact (Kd.N_reads' HO206.out).2.2 | (with_reducible refine Kd.C_alloc ?_ _) | (with_reducible refine Kd.C_drewN ?_ _) | (with_reducible refine Kd.C_drew ?_)))
                                            (case side2 => exact (Kd.N_reads' HO206.out).2.1)
                                            rintro e w70 ⟨rfl, hb⟩
                                            have HS0_ := (hb.cell (World.block_lt_of_cell? _ _ (hHeld.1))).trans (hHeld.1)
                                            have HS1_ := (hb.cell (World.block_lt_of_cell? _ _ (hHeld.2.1))).trans (hHeld.2.1)
                                            have HS2_ := (hb.cell (World.block_lt_of_cell? _ _ (hHeld.2.2.1))).trans (hHeld.2.2.1)
                                            have HS3_ := (hb.cell (World.block_lt_of_cell? _ _ (hHeld.2.2.2.1))).trans (hHeld.2.2.2.1)
                                            have HS4_ := (hb.cell (World.block_lt_of_cell? _ _ (hHeld.2.2.2.2.1))).trans (hHeld.2.2.2.2.1)
                                            have HS5_ := (hb.cell (World.block_lt_of_cell? _ _ (hHeld.2.2.2.2.2.1))).trans (hHeld.2.2.2.2.2.1)
                                            have HS6_ := (hb.cell (World.block_lt_of_cell? _ _ (hHeld.2.2.2.2.2.2.1))).trans (hHeld.2.2.2.2.2.2.1)
                                            have HS7_ := (hb.cell (World.block_lt_of_cell? _ _ (hHeld.2.2.2.2.2.2.2.1))).trans (hHeld.2.2.2.2.2.2.2.1)
                                            have HS8_ := (hb.cell (World.block_lt_of_cell? _ _ (hHeld.2.2.2.2.2.2.2.2.1))).trans (hHeld.2.2.2.2.2.2.2.2.1)
                                            have HS9_ := (hb.cell (World.block_lt_of_cell? _ _ (hHeld.2.2.2.2.2.2.2.2.2))).trans (hHeld.2.2.2.2.2.2.2.2.2)
                                            refine ⟨_, rfl, ?_⟩
                                            have n0_ := Aside0.mk (Kd.V_below (by (with_reducible repeat (first | apply Kd.V_alloc | apply Kd.V_drewN | apply Kd.V_drew)); exact HO_0.out) hb)
                                            have n1_ := Aside0.mk (Kd.V_below (by (with_reducible repeat (first | apply Kd.V_alloc | apply Kd.V_drewN | apply Kd.V_drew)); exact HL202_4.out) hb)
                                            have n2_ := Aside0.mk (Kd.V_below (by (with_reducible repeat (first | apply Kd.V_alloc | apply Kd.V_drewN | apply Kd.V_drew)); exact HL203_4.out) hb)
                                            have n3_ := Aside0.mk (Kd.N_below (by (with_reducible repeat (first | apply Kd.N_alloc | apply Kd.N_drewN | apply Kd.N_drew)); exact HO206.out) hb)
                                            have n4_ := Aside0.mk (Kd.C_below (by repeat (first | (with_reducible exact HR202_4.out) | (with_reducible refine Kd.C_alloc ?_ _) | (with_reducible refine Kd.C_drewN ?_ _) | (with_reducible refine Kd.C_drew ?_) | exact HR202_4.out)) hb)
                                            have n5_ := Aside0.mk (Kd.C_below (by repeat (first | (with_reducible exact HR203_4.out) | (with_reducible refine Kd.C_alloc ?_ _) | (with_reducible refine Kd.C_drewN ?_ _) | (with_reducible refine Kd.C_drew ?_) | exact HR203_4.out)) hb)
                                            have n6_ := Aside0.mk (below_step (by repeat (first | (with_reducible first | exact HB.out | apply below_alloc | apply pw_below_drewN | apply below_drew1) | exact HB.out)) hb)
                                            clear HO_0
                                            clear HL202_4
                                            clear HL203_4
                                            clear HO206
                                            clear HR202_4
                                            clear HR203_4
                                            clear HB
                                            have HO_0 := n0_
                                            have HL202_4 := n1_
                                            have HL203_4 := n2_
                                            have HO206 := n3_
                                            have HR202_4 := n4_
                                            have HR203_4 := n5_
                                            have HB := n6_
                                            clear n0_ n1_ n2_ n3_ n4_ n5_ n6_
                                            (try clear hb)
                                            (try clear hb2)
                                            (try clear hk)
                                            (try clear hi)
                                            refine hK.out _ _ ⟨HS0_, HS1_, HS2_, HS3_, HS4_, HS5_, HS6_, HS7_, HS8_, HS9_⟩ (fun hHeld => ?_)
                                            clear hK K
                                            refine norm_ (a' := ?_) ?_ ?_
                                            rotate_left
                                            · show Act.put _ (some 109) _ = _
                                              simp only [Act.put, HW.LA, HW.LZ, HW.LS, i64_w, i32_w]
                                              rfl
                                            refine pure_ (i := 10) (N := some 110) (v := ?_) (a' := ?_) (HW.tf 11 0) rfl rfl (any_of HT_.out (by kernel_rfl)) (fun _ _ _ h => h) (Or.inl ⟨by rfl, ?_⟩) ?_ ?_
                                            rotate_left
                                            · intro w'
                                              go_simp
                                              with_reducible rfl
                                            rotate_left
                                            · simp only [Act.put, HW.LA, HW.LZ, HW.LS, i64_w, i32_w]
                                              rfl
                                            refine done_ (done_of HT_.out (by kernel_rfl)) ?_
                                            try go_wp2
                                            go_roundg k4
                                            case measure => have := HJ3.out; have := HK2.out; have := HJ27.out; have := HK4.out; omega
                                            case rel => exact ⟨(wrap64 (x11_4 + 1)), (by first | rfl | (simp; done) | (simp [*]; done)), H', ⟨by have := HJ3.out; have := HK2.out; have := HJ27.out; have := HK4.out; omega⟩, ⟨by (with_reducible repeat (first | apply Kd.V_alloc | apply Kd.V_drewN | apply Kd.V_drew)); exact Kd.V_mono HO_0.out (fun _ hk => hk.1)⟩, ⟨by repeat (first | (with_reducible first | exact HB.out | apply below_alloc | apply pw_below_drewN | apply below_drew1) | exact HB.out)⟩⟩
                                          · rw [if_neg c65] at H
                                            exact absurd H (by simp)
                                        · rw [if_neg c63] at H
                                          exact absurd H (by simp)
                                      · rw [if_neg c62] at H
                                        exact absurd H (by simp)
                                    · rw [if_neg c61] at H
                                      exact absurd H (by simp)
                                  · rw [if_neg c60] at H
                                    have c60b0 : decide (x11_4 < (l0.length : Int)) = false := decide_eq_false c60
                                    clear c60
                                    by_cases c71 : t168 = true
                                    · subst c71
                                      have H1 : (some true) = some r := by rw [if_pos rfl] at H; exact H
                                      clear H
                                      have H := H1
                                      clear H1
                                      obtain rfl := Option.some.inj H
                                      go_wp2
                                      go_ret
                                      exact ⟨by first | rfl | (simp [errW_none, errW_some] <;> rfl) | (simp only [← hji20]; first | rfl | (simp [errW_none, errW_some] <;> rfl)) | (simp [*, errW_none, errW_some] <;> rfl), by repeat (first | (with_reducible first | exact HB.out | apply below_alloc | apply pw_below_drewN | apply below_drew1) | exact HB.out)⟩
                                    · replace c71 := Bool.eq_false_iff.mpr c71
                                      subst c71
                                      have H1 : (none) = some r := by rw [if_neg (show ¬ (false = true) by decide)] at H; exact H
                                      clear H
                                      have H := H1
                                      clear H1
                                      exact absurd H (by simp)
                      · rw [if_neg c26] at H
                        exact absurd H (by simp)
                    · rw [if_neg c23] at H
                      exact absurd H (by simp)
                  · rw [if_neg c22] at H
                    exact absurd H (by simp)
                · rw [if_neg c21] at H
                  exact absurd H (by simp)

/-- THE ONE PURE STATEMENT of phaetontop_TopMany. -/
def phaetontop_TopMany.Pure : Prop := ∀ (l0 : List (S26)) (a1 : Int), l0.length ≤ maxLen → (∀ x ∈ l0, (fun (x : S26) => (fun (_ : Bool) => True) x.f0 ∧ ((fun (x : Int) => (Lit.int .i64 x).wf = true) x.f1 ∧ ((fun (_ : Bool) => True) x.f2 ∧ ((fun (x : Int) => (Lit.int .i64 x).wf = true) x.f3 ∧ ((fun (l : List Int) => ∀ x ∈ l, (fun (x : Int) => (Lit.int .u8 x).wf = true) x) x.f4))))) x) → (Lit.int .u8 a1).wf = true → ∃ k, phaetontop_TopMany.f k l0 a1 = some true
theorem phaetontop_TopMany.walk (P : phaetontop_TopMany.Pure) (A0 : Option Addr) (c0 : Nat) (l0 : List (S26)) (a1 : Int) (w : World) (hw0 : ∀ x ∈ l0, (fun (x : S26) => (fun (_ : Bool) => True) x.f0 ∧ ((fun (x : Int) => (Lit.int .i64 x).wf = true) x.f1 ∧ ((fun (_ : Bool) => True) x.f2 ∧ ((fun (x : Int) => (Lit.int .i64 x).wf = true) x.f3 ∧ ((fun (l : List Int) => ∀ x ∈ l, (fun (x : Int) => (Lit.int .u8 x).wf = true) x) x.f4))))) x) (hr0 : Kd.C k26 w A0 l0.length l0) (hc0 : l0.length ≤ c0) (hw1 : (Lit.int .u8 a1).wf = true) :
    Calls Try.prog 3 #[.slice A0 l0.length c0, .int .u8 a1] w fun e w' => e = .returned (.bool true) ∧ Below w.heap.size w w' := by
  obtain ⟨k, h⟩ := P l0 a1 (by have := hr0.2.1; unfold maxLen; omega) hw0 hw1
  refine (phaetontop_TopMany.calls k (fun _ => True) _ _ l0 a1 true w (Kd.V_mk hc0 (frames_F hr0)) h).mono ?_
  rintro e w' ⟨rfl, hd⟩
  exact ⟨rfl, hd⟩

end Go.Proofs.Ytechlakahpkdpaa.Px

-- Written by myprint.py, a program of this session's, over the kit's print.py; not a text of print.sh's own.
import Derived.Test.YtfjffajmagefkaaPx0
namespace Go.Proofs.Ytfjffajmagefkaa.Px
open Go.RowKit Go.Proofs.YtfjffajmagefkaaW.PrintWords Go.Proofs.YtfjffajmagefkaaW.PrintLast Go.Proofs.YtfjffajmagefkaaW.PrintMore
attribute [local go_sem] max2_int min2_int max_two min_two max_three min_three max_four min_four   -- for this text's walks alone
set_option linter.unusedVariables false
set_option linter.unusedSimpArgs false

/-! ### phaetonref02_Byte: function 22 -/
mutual
def phaetonref02_Byte.l0 : Nat → List Int → Int → Int → Option (Int)
  | 0, _, _, _ => none
  | k + 1, x0, x3, x4 => if x4 < (x0.length : Int) then (if 0 ≤ x4 then (phaetonref02_Byte.l1 k x0 (Go.bits .xor .i64 x3 (wrap64 (rd x0 x4))) x4 0) else (none)) else (some (Go.bits .xor .i64 x3 255))
def phaetonref02_Byte.l1 : Nat → List Int → Int → Int → Int → Option (Int)
  | 0, _, _, _, _ => none
  | k + 1, x0, x3, x4, x5 => if x5 < 8 then (if x3 ≥ 128 then (phaetonref02_Byte.l1 k x0 (Go.bits .xor .i64 (Int.tmod (wrap64 (x3 * 2)) 256) 29) x4 (wrap64 (x5 + 1))) else (phaetonref02_Byte.l1 k x0 (wrap64 (x3 * 2)) x4 (wrap64 (x5 + 1)))) else (phaetonref02_Byte.l0 k x0 x3 (wrap64 (x4 + 1)))
end
def phaetonref02_Byte.f (k : Nat) (l0 : List Int) : Option (Int) := phaetonref02_Byte.l0 k l0 255 0
theorem phaetonref02_Byte.mono_l : ∀ k, (∀ y0 y1 y2, LeO (phaetonref02_Byte.l0 k y0 y1 y2) (phaetonref02_Byte.l0 (k + 1) y0 y1 y2)) ∧ (∀ y0 y1 y2 y3, LeO (phaetonref02_Byte.l1 k y0 y1 y2 y3) (phaetonref02_Byte.l1 (k + 1) y0 y1 y2 y3))
  | 0 => ⟨fun _ _ _ r h => by simp [phaetonref02_Byte.l0] at h, fun _ _ _ _ r h => by simp [phaetonref02_Byte.l1] at h⟩
  | k + 1 => by
    obtain ⟨ih0, ih1⟩ := phaetonref02_Byte.mono_l k
    refine ⟨?_, ?_⟩
    · intro y0 y1 y2
      unfold phaetonref02_Byte.l0
      repeat' first
      | (with_reducible exact ih0 _ _ _)
      | (with_reducible exact ih1 _ _ _ _)
      | (with_reducible exact LeO.refl _)
      | (with_reducible exact LeO.none _)
      | (with_reducible refine LeO.ite ?_ ?_)
      | (with_reducible refine LeO.bind ?_ (fun _ => ?_))
      | exact ih0 _ _ _
      | exact ih1 _ _ _ _
      | exact LeO.none _
      | refine LeO.ite ?_ ?_
      | refine LeO.bind ?_ (fun _ => ?_)
    · intro y0 y1 y2 y3
      unfold phaetonref02_Byte.l1
      repeat' first
      | (with_reducible exact ih0 _ _ _)
      | (with_reducible exact ih1 _ _ _ _)
      | (with_reducible exact LeO.refl _)
      | (with_reducible exact LeO.none _)
      | (with_reducible refine LeO.ite ?_ ?_)
      | (with_reducible refine LeO.bind ?_ (fun _ => ?_))
      | exact ih0 _ _ _
      | exact ih1 _ _ _ _
      | exact LeO.none _
      | refine LeO.ite ?_ ?_
      | refine LeO.bind ?_ (fun _ => ?_)
theorem phaetonref02_Byte.mono : ∀ a0 k, LeO (phaetonref02_Byte.f k a0) (phaetonref02_Byte.f (k + 1) a0) := by
  intro a0 k
  obtain ⟨ih0, ih1⟩ := phaetonref02_Byte.mono_l k
  unfold phaetonref02_Byte.f
  repeat' first
      | (with_reducible exact ih0 _ _ _)
      | (with_reducible exact ih1 _ _ _ _)
      | (with_reducible exact LeO.refl _)
      | (with_reducible exact LeO.none _)
      | (with_reducible refine LeO.ite ?_ ?_)
      | (with_reducible refine LeO.bind ?_ (fun _ => ?_))
      | exact ih0 _ _ _
      | exact ih1 _ _ _ _
      | exact LeO.none _
      | refine LeO.ite ?_ ?_
      | refine LeO.bind ?_ (fun _ => ?_)
set_option maxHeartbeats 8000000 in
set_option maxRecDepth 100000 in
theorem phaetonref02_Byte.calls (k : Nat) (A0 : Option Addr) (c0 : Nat) (l0 : List Int) (r : Int) (w : World) (hr0 : Kd.C (Kd.int .u8) w A0 l0.length l0) (hc0 : l0.length ≤ c0) (h : phaetonref02_Byte.f k l0 = some r) :
    Calls Try.prog 22 #[.slice A0 l0.length c0] w fun e w' => e = .returned (.int .i64 r) ∧ Drawn0 w w' := by
  have HR0 := Aside0.mk hr0
  have HC0 := Aside0.mk hc0
  clear hr0 hc0
  have H : (phaetonref02_Byte.l0 k l0 255 0) = some r := h
  clear h
  have H' := Aside0.mk H
  clear H
  go_enter Try.func22, Try.ntmps22
  go_wp2
  go_loopg [3, 4] k (fun kq v3 v4 w' => ∃ (x3_1 : Int) (x4_1 : Int), v3 = .int .i64 x3_1 ∧ v4 = .int .i64 x4_1 ∧ Aside0 (phaetonref02_Byte.l0 kq l0 x3_1 x4_1 = some r) ∧ Aside0 (kq ≤ k) ∧ Drawn0 w w')
  case atStart => exact ⟨(255), (0), (by first | rfl | (simp; done) | (simp [*]; done)), (by first | rfl | (simp; done) | (simp [*]; done)), H', ⟨Nat.le_refl _⟩, by repeat (first | exact Drawn0.refl _ | apply Drawn0.step)⟩
  case round =>
    clear H'
    obtain ⟨x3_1, x4_1, rfl, rfl, HA, HK1, ⟨m1, rfl⟩⟩ := hrel
    cases gk with
    | zero => exact absurd HA.out (by simp [phaetonref02_Byte.l0])
    | succ k1 =>
      have H := HA.out
      clear HA
      simp only [phaetonref02_Byte.l0] at H
      by_cases c2 : x4_1 < (l0.length : Int)
      · rw [if_pos c2] at H
        have c2b0 : decide (x4_1 < (l0.length : Int)) = true := decide_eq_true c2
        clear c2
        by_cases c3 : 0 ≤ x4_1
        · rw [if_pos c3] at H
          have c3b0 : decide (0 ≤ x4_1) = true := decide_eq_true c3
          clear c3
          have H' := Aside0.mk H
          clear H
          have p197 : 0 ≤ (x4_1 : Int) := of_decide_eq_true (by first | (with_reducible assumption) | assumption)
          have q197 : x4_1 < (l0.length : Int) := of_decide_eq_true (by first | (with_reducible assumption) | assumption)
          obtain ⟨ad197, e197, hx197_0⟩ := Kd.at_int HR0.out x4_1 p197 q197
          cases e197
          replace p197 := eq_true p197
          replace q197 := eq_true q197
          go_wp2
          go_loopg [3, 5] k1 (fun kq v3 v5 w' => ∃ (x3_2 : Int) (x5_2 : Int), v3 = .int .i64 x3_2 ∧ v5 = .int .i64 x5_2 ∧ Aside0 (phaetonref02_Byte.l1 kq l0 x3_2 x4_1 x5_2 = some r) ∧ Aside0 (kq ≤ k1) ∧ Drawn0 w w')
          case atStart => exact ⟨(Go.bits .xor .i64 x3_1 (wrap64 (rd l0 x4_1))), (0), (by first | rfl | (simp; done) | (simp [*]; done)), (by first | rfl | (simp; done) | (simp [*]; done)), H', ⟨Nat.le_refl _⟩, by repeat (first | exact Drawn0.refl _ | apply Drawn0.step)⟩
          case round =>
            clear H'
            try clear p1
            try clear q1
            try clear hx1
            try clear c2
            try clear c2b0
            try clear p2
            try clear c3
            try clear c3b0
            try clear hx197_0
            try clear p197
            try clear q197
            obtain ⟨x3_2, x5_2, rfl, rfl, HA, HK2, ⟨m2, rfl⟩⟩ := hrel
            cases gk with
            | zero => exact absurd HA.out (by simp [phaetonref02_Byte.l1])
            | succ k2 =>
              have H := HA.out
              clear HA
              simp only [phaetonref02_Byte.l1] at H
              by_cases c4 : x5_2 < 8
              · rw [if_pos c4] at H
                have c4b0 : decide (x5_2 < 8) = true := decide_eq_true c4
                clear c4
                by_cases c5 : x3_2 ≥ 128
                · rw [if_pos c5] at H
                  have c5b0 : decide (128 ≤ x3_2) = true := decide_eq_true c5
                  clear c5
                  have H' := Aside0.mk H
                  clear H
                  go_wp2
                  go_roundg k2
                  case measure => have := HK1.out; have := HK2.out; omega
                  case rel => exact ⟨(Go.bits .xor .i64 (Int.tmod (wrap64 (x3_2 * 2)) 256) 29), (wrap64 (x5_2 + 1)), (by first | rfl | (simp; done) | (simp [*]; done)), (by first | rfl | (simp; done) | (simp [*]; done)), H', ⟨by have := HK1.out; have := HK2.out; omega⟩, by repeat (first | exact Drawn0.refl _ | apply Drawn0.step)⟩
                · rw [if_neg c5] at H
                  have c5b0 : decide (128 ≤ x3_2) = false := decide_eq_false c5
                  clear c5
                  have H' := Aside0.mk H
                  clear H
                  go_wp2
                  go_roundg k2
                  case measure => have := HK1.out; have := HK2.out; omega
                  case rel => exact ⟨(wrap64 (x3_2 * 2)), (wrap64 (x5_2 + 1)), (by first | rfl | (simp; done) | (simp [*]; done)), (by first | rfl | (simp; done) | (simp [*]; done)), H', ⟨by have := HK1.out; have := HK2.out; omega⟩, by repeat (first | exact Drawn0.refl _ | apply Drawn0.step)⟩
              · rw [if_neg c4] at H
                have c4b0 : decide (x5_2 < 8) = false := decide_eq_false c4
                clear c4
                have H' := Aside0.mk H
                clear H
                go_wp2
                go_roundg k2
                case measure => have := HK1.out; have := HK2.out; omega
                case rel => exact ⟨(x3_2), (wrap64 (x4_1 + 1)), (by first | rfl | (simp; done) | (simp [*]; done)), (by first | rfl | (simp; done) | (simp [*]; done)), H', ⟨by have := HK1.out; have := HK2.out; omega⟩, by repeat (first | exact Drawn0.refl _ | apply Drawn0.step)⟩
        · rw [if_neg c3] at H
          exact absurd H (by simp)
      · rw [if_neg c2] at H
        have c2b0 : decide (x4_1 < (l0.length : Int)) = false := decide_eq_false c2
        clear c2
        obtain rfl := Option.some.inj H
        go_wp2
        go_ret
        exact ⟨by first | rfl | (simp; done) | (simp [*]; done), by repeat (first | exact Drawn0.refl _ | apply Drawn0.step)⟩

/-! ### phaetonref16_Wrap: function 12 -/
def phaetonref16_Wrap.f (k : Nat) (a0 : Int) (a1 : Int) (l2 : List Int) : Option (List Int × Bool) := if a0 < 0 then (some (([] : List Int), false)) else (if a0 > 65535 then (some (([] : List Int), false)) else (if a1 < 0 then (some (([] : List Int), false)) else (if a1 > 14 then (some (([] : List Int), false)) else (if (l2.length : Int) > 6 then (some (([] : List Int), false)) else ((some (([(a0 / 256) % 256, (a0) % 256, (a1) % 256] : List Int) : List Int)).bind fun y198 => (if y198.length + l2.length < 140737488355328 then ((some (y198 ++ l2 : List Int)).bind fun y201 => ((phaetonref02_Byte.f k y201).bind fun t204 => ((some (([(t204) % 256] : List Int) : List Int)).bind fun y205 => (if 2 ≤ (y201.length : Int) then ((some (y201.drop 2 : List Int)).bind fun y208 => (if y205.length + y208.length < 140737488355328 then (some ((y205 ++ y208), true)) else (none))) else (none))))) else (none)))))))
theorem phaetonref16_Wrap.mono : ∀ a0 a1 a2 k, LeO (phaetonref16_Wrap.f k a0 a1 a2) (phaetonref16_Wrap.f (k + 1) a0 a1 a2) := by
  intro a0 a1 a2 k
  unfold phaetonref16_Wrap.f
  repeat' first
      | (with_reducible exact phaetonref02_Byte.mono _ _)
      | (with_reducible exact LeO.refl _)
      | (with_reducible exact LeO.none _)
      | (with_reducible refine LeO.ite ?_ ?_)
      | (with_reducible refine LeO.bind ?_ (fun _ => ?_))
      | exact phaetonref02_Byte.mono _ _
      | exact LeO.none _
      | refine LeO.ite ?_ ?_
      | refine LeO.bind ?_ (fun _ => ?_)
def phaetonref16_Wrap.T4 : Bool × List (List Nat × List Nat) := (true, [([], []), ([0], [0]), ([1], [1]), ([2], [2]), ([], []), ([4], [4]), ([3, 5, 1], [3, 5]), ([6, 6, 0, 1, 2, 3, 4, 5, 6], [6]), ([7, 0, 1, 2, 3, 4, 5, 6, 7], [])])
def phaetonref16_Wrap.B4 : List Nat := [0, 1, 3, 7, 0, 16, 63, 127, 255]
theorem phaetonref16_Wrap.tab4 : rtab .any (opsOf Try.f12 4) = phaetonref16_Wrap.T4 := by kernel_rfl
theorem phaetonref16_Wrap.bits4 : waitsOk phaetonref16_Wrap.T4.2 phaetonref16_Wrap.B4 = true := by kernel_rfl
set_option maxHeartbeats 8000000 in
set_option maxRecDepth 100000 in
theorem phaetonref16_Wrap.calls (k : Nat) (a0 : Int) (a1 : Int) (A2 : Option Addr) (c2 : Nat) (l2 : List Int) (r1 : List Int) (r2 : Bool) (w : World) (hr2 : Kd.C (Kd.int .u8) w A2 l2.length l2) (hc2 : l2.length ≤ c2) (h : phaetonref16_Wrap.f k a0 a1 l2 = some (r1, r2)) :
    Calls Try.prog 12 #[.int .i64 a0, .int .i64 a1, .slice A2 l2.length c2] w fun e w' => ∃ v0_ : Value, e = .returned (.tuple #[v0_, .bool r2]) ∧ Kd.R (Kd.int .u8) 5 w' w.heap.size (fun _ => True) v0_ r1 ∧ Below w.heap.size w w' := by
  have HR2 := Aside0.mk hr2
  have HC2 := Aside0.mk hc2
  clear hr2 hc2
  have HB := Aside0.mk (Below.refl w.heap.size w)
  have H : (if a0 < 0 then (some (([] : List Int), false)) else (if a0 > 65535 then (some (([] : List Int), false)) else (if a1 < 0 then (some (([] : List Int), false)) else (if a1 > 14 then (some (([] : List Int), false)) else (if (l2.length : Int) > 6 then (some (([] : List Int), false)) else ((some (([(a0 / 256) % 256, (a0) % 256, (a1) % 256] : List Int) : List Int)).bind fun y198 => (if y198.length + l2.length < 140737488355328 then ((some (y198 ++ l2 : List Int)).bind fun y201 => ((phaetonref02_Byte.f k y201).bind fun t204 => ((some (([(t204) % 256] : List Int) : List Int)).bind fun y205 => (if 2 ≤ (y201.length : Int) then ((some (y201.drop 2 : List Int)).bind fun y208 => (if y205.length + y208.length < 140737488355328 then (some ((y205 ++ y208), true)) else (none))) else (none))))) else (none)))))))) = some (r1, r2) := h
  clear h
  by_cases c4 : a0 < 0
  · rw [if_pos c4] at H
    have c4b0 : decide (a0 < 0) = true := decide_eq_true c4
    clear c4
    simp only [Option.some.injEq, Prod.mk.injEq] at H
    obtain ⟨rfl, rfl⟩ := H
    go_enter Try.func12, Try.ntmps12
    go_wp2
    go_ret2
    exact ⟨_, by first | rfl | (simp [errW_none, errW_some] <;> rfl) | (simp [*, errW_none, errW_some] <;> rfl), by first | exact Kd.R_nil _ _ _ _ _ | exact Kd.N_nil _ _ _ _ _ | exact Kd.V_nil _ _ _ _ _ | exact Kd.Q_nil _ _ _ _ _ | exact Kd.S_nil _ _ _ _ _, by repeat (first | (with_reducible first | exact HB.out | apply below_alloc | apply pw_below_drewN | apply below_drew1) | exact HB.out)⟩
  · rw [if_neg c4] at H
    have c4b0 : decide (a0 < 0) = false := decide_eq_false c4
    clear c4
    by_cases c5 : a0 > 65535
    · rw [if_pos c5] at H
      have c5b0 : decide (65535 < a0) = true := decide_eq_true c5
      clear c5
      simp only [Option.some.injEq, Prod.mk.injEq] at H
      obtain ⟨rfl, rfl⟩ := H
      go_enter Try.func12, Try.ntmps12
      go_wp2
      go_ret2
      exact ⟨_, by first | rfl | (simp [errW_none, errW_some] <;> rfl) | (simp [*, errW_none, errW_some] <;> rfl), by first | exact Kd.R_nil _ _ _ _ _ | exact Kd.N_nil _ _ _ _ _ | exact Kd.V_nil _ _ _ _ _ | exact Kd.Q_nil _ _ _ _ _ | exact Kd.S_nil _ _ _ _ _, by repeat (first | (with_reducible first | exact HB.out | apply below_alloc | apply pw_below_drewN | apply below_drew1) | exact HB.out)⟩
    · rw [if_neg c5] at H
      have c5b0 : decide (65535 < a0) = false := decide_eq_false c5
      clear c5
      by_cases c6 : a1 < 0
      · rw [if_pos c6] at H
        have c6b0 : decide (a1 < 0) = true := decide_eq_true c6
        clear c6
        simp only [Option.some.injEq, Prod.mk.injEq] at H
        obtain ⟨rfl, rfl⟩ := H
        go_enter Try.func12, Try.ntmps12
        go_wp2
        go_ret2
        exact ⟨_, by first | rfl | (simp [errW_none, errW_some] <;> rfl) | (simp [*, errW_none, errW_some] <;> rfl), by first | exact Kd.R_nil _ _ _ _ _ | exact Kd.N_nil _ _ _ _ _ | exact Kd.V_nil _ _ _ _ _ | exact Kd.Q_nil _ _ _ _ _ | exact Kd.S_nil _ _ _ _ _, by repeat (first | (with_reducible first | exact HB.out | apply below_alloc | apply pw_below_drewN | apply below_drew1) | exact HB.out)⟩
      · rw [if_neg c6] at H
        have c6b0 : decide (a1 < 0) = false := decide_eq_false c6
        clear c6
        by_cases c7 : a1 > 14
        · rw [if_pos c7] at H
          have c7b0 : decide (14 < a1) = true := decide_eq_true c7
          clear c7
          simp only [Option.some.injEq, Prod.mk.injEq] at H
          obtain ⟨rfl, rfl⟩ := H
          go_enter Try.func12, Try.ntmps12
          go_wp2
          go_ret2
          exact ⟨_, by first | rfl | (simp [errW_none, errW_some] <;> rfl) | (simp [*, errW_none, errW_some] <;> rfl), by first | exact Kd.R_nil _ _ _ _ _ | exact Kd.N_nil _ _ _ _ _ | exact Kd.V_nil _ _ _ _ _ | exact Kd.Q_nil _ _ _ _ _ | exact Kd.S_nil _ _ _ _ _, by repeat (first | (with_reducible first | exact HB.out | apply below_alloc | apply pw_below_drewN | apply below_drew1) | exact HB.out)⟩
        · rw [if_neg c7] at H
          have c7b0 : decide (14 < a1) = false := decide_eq_false c7
          clear c7
          by_cases c8 : (l2.length : Int) > 6
          · rw [if_pos c8] at H
            have c8b0 : decide (6 < (l2.length : Int)) = true := decide_eq_true c8
            have c8b1 : decide (6 < l2.length) = true := decide_eq_true (by omega)
            clear c8
            simp only [Option.some.injEq, Prod.mk.injEq] at H
            obtain ⟨rfl, rfl⟩ := H
            go_enter Try.func12, Try.ntmps12
            go_wp2
            go_ret2
            exact ⟨_, by first | rfl | (simp [errW_none, errW_some] <;> rfl) | (simp [*, errW_none, errW_some] <;> rfl), by first | exact Kd.R_nil _ _ _ _ _ | exact Kd.N_nil _ _ _ _ _ | exact Kd.V_nil _ _ _ _ _ | exact Kd.Q_nil _ _ _ _ _ | exact Kd.S_nil _ _ _ _ _, by repeat (first | (with_reducible first | exact HB.out | apply below_alloc | apply pw_below_drewN | apply below_drew1) | exact HB.out)⟩
          · rw [if_neg c8] at H
            have c8b0 : decide (6 < (l2.length : Int)) = false := decide_eq_false c8
            have c8b1 : decide (6 < l2.length) = false := decide_eq_false (by omega)
            clear c8
            obtain ⟨y198, hy198⟩ : ∃ y_ : List Int, y_ = (([(a0 / 256) % 256, (a0) % 256, (a1) % 256] : List Int)) := ⟨_, rfl⟩
            replace H : (if y198.length + l2.length < 140737488355328 then ((some (y198 ++ l2 : List Int)).bind fun y201 => ((phaetonref02_Byte.f k y201).bind fun t204 => ((some (([(t204) % 256] : List Int) : List Int)).bind fun y205 => (if 2 ≤ (y201.length : Int) then ((some (y201.drop 2 : List Int)).bind fun y208 => (if y205.length + y208.length < 140737488355328 then (some ((y205 ++ y208), true)) else (none))) else (none))))) else (none)) = some (r1, r2) := by first | (rw [hy198]; with_reducible exact H) | (have H2_ := (Option.bind_some _ _).symm.trans H; rw [hy198]; with_reducible exact H2_) | (have H2_ := (Option.bind_some _ _).symm.trans H; with_reducible exact H2_) | with_reducible exact H | (rw [hy198]; exact H) | exact H
            have Ny198 := Aside0.mk hy198
            clear hy198
            by_cases c9 : y198.length + l2.length < 140737488355328
            · rw [if_pos c9] at H
              have LMc9 := Aside0.mk c9
              clear c9
              obtain ⟨y201, hy201⟩ : ∃ y_ : List Int, y_ = (y198 ++ l2) := ⟨_, rfl⟩
              replace H : ((phaetonref02_Byte.f k y201).bind fun t204 => ((some (([(t204) % 256] : List Int) : List Int)).bind fun y205 => (if 2 ≤ (y201.length : Int) then ((some (y201.drop 2 : List Int)).bind fun y208 => (if y205.length + y208.length < 140737488355328 then (some ((y205 ++ y208), true)) else (none))) else (none)))) = some (r1, r2) := by first | (rw [hy201]; with_reducible exact H) | (have H2_ := (Option.bind_some _ _).symm.trans H; rw [hy201]; with_reducible exact H2_) | (have H2_ := (Option.bind_some _ _).symm.trans H; with_reducible exact H2_) | with_reducible exact H | (rw [hy201]; exact H) | exact H
              have Ny201 := Aside0.mk hy201
              clear hy201
              replace H := Option.bind_eq_some_iff.mp H
              obtain ⟨t204, A100, H⟩ := H
              replace H : ((some (([(t204) % 256] : List Int) : List Int)).bind fun y205 => (if 2 ≤ (y201.length : Int) then ((some (y201.drop 2 : List Int)).bind fun y208 => (if y205.length + y208.length < 140737488355328 then (some ((y205 ++ y208), true)) else (none))) else (none))) = some (r1, r2) := H
              have A10 := Aside0.mk A100
              clear A100
              obtain ⟨y205, hy205⟩ : ∃ y_ : List Int, y_ = (([(t204) % 256] : List Int)) := ⟨_, rfl⟩
              replace H : (if 2 ≤ (y201.length : Int) then ((some (y201.drop 2 : List Int)).bind fun y208 => (if y205.length + y208.length < 140737488355328 then (some ((y205 ++ y208), true)) else (none))) else (none)) = some (r1, r2) := by first | (rw [hy205]; with_reducible exact H) | (have H2_ := (Option.bind_some _ _).symm.trans H; rw [hy205]; with_reducible exact H2_) | (have H2_ := (Option.bind_some _ _).symm.trans H; with_reducible exact H2_) | with_reducible exact H | (rw [hy205]; exact H) | exact H
              have Ny205 := Aside0.mk hy205
              clear hy205
              by_cases c11 : 2 ≤ (y201.length : Int)
              · rw [if_pos c11] at H
                have c11b0 := eq_true c11
                have c11b1 : decide (2 ≤ (y201.length : Int)) = true := decide_eq_true c11
                clear c11
                obtain ⟨y208, hy208⟩ : ∃ y_ : List Int, y_ = (y201.drop 2) := ⟨_, rfl⟩
                replace H : (if y205.length + y208.length < 140737488355328 then (some ((y205 ++ y208), true)) else (none)) = some (r1, r2) := by first | (rw [hy208]; with_reducible exact H) | (have H2_ := (Option.bind_some _ _).symm.trans H; rw [hy208]; with_reducible exact H2_) | (have H2_ := (Option.bind_some _ _).symm.trans H; with_reducible exact H2_) | with_reducible exact H | (rw [hy208]; exact H) | exact H
                have Ny208 := Aside0.mk hy208
                clear hy208
                by_cases c12 : y205.length + y208.length < 140737488355328
                · rw [if_pos c12] at H
                  have LMc12 := Aside0.mk c12
                  clear c12
                  obtain ⟨y212, hy212⟩ : ∃ y_ : List Int, y_ = (y205 ++ y208) := ⟨_, rfl⟩
                  replace H : (some (y212, true)) = some (r1, r2) := by first | (rw [hy212]; with_reducible exact H) | (have H2_ := (Option.bind_some _ _).symm.trans H; rw [hy212]; with_reducible exact H2_) | (have H2_ := (Option.bind_some _ _).symm.trans H; with_reducible exact H2_) | with_reducible exact H | (rw [hy212]; exact H) | exact H
                  have Ny212 := Aside0.mk hy212
                  clear hy212
                  simp only [Option.some.injEq, Prod.mk.injEq] at H
                  obtain ⟨rfl, rfl⟩ := H
                  go_enter Try.func12, Try.ntmps12
                  try go_wp2_with (first | ((with_reducible refine gate_dst (N := 35) rfl ?_); (try (refine gate_guard (by rfl) ?_; dsimp only)); refine Kd.R_lit (Kd.int .u8) _ 5 ?hg (N := 35) ?hd (xs := ([(a0 / 256) % 256, (a0) % 256, (a1) % 256] : List Int)) (inner := [.int .u8 ((a0 / 256) % 256), .int .u8 ((a0) % 256), .int .u8 ((a1) % 256)]) (ok := fun _ => True) (okp := fun _ => True) ?hr ?hp (fun _ hk => hk) trivial (Below.refl _ _) (Nat.le_refl _) (by simp) ?_; (case hd => rfl); (case hg => rfl); (case hr => first | (go_simp; done) | (go_simp; rfl)); (case hp => exact (Reps.one (show Kd.M (Kd.int .u8) _ _ _ ((a0 / 256) % 256) [.int .u8 ((a0 / 256) % 256)] from rfl) (Reps.one (show Kd.M (Kd.int .u8) _ _ _ ((a0) % 256) [.int .u8 ((a0) % 256)] from rfl) (Reps.one (show Kd.M (Kd.int .u8) _ _ _ ((a1) % 256) [.int .u8 ((a1) % 256)] from rfl) (Reps.none _ _))))); intro v199 w13 ho14 hb hg_ hnew_; clear hg_ hnew_; (first | rw [← Ny198.out] at ho14 | (simp only [Int.reduceToNat] at ho14; rw [← Ny198.out] at ho14)); have n0_ := Aside0.mk (Kd.R_lower ho14 (below_size (by repeat (first | (with_reducible first | exact HB.out | apply below_alloc | apply pw_below_drewN | apply below_drew1) | exact HB.out)))); have n1_ := Aside0.mk (below_step (by repeat (first | (with_reducible first | exact HB.out | apply below_alloc | apply pw_below_drewN | apply below_drew1) | exact HB.out)) hb); clear HB; have HO200 := n0_; have HB := n1_; clear n0_ n1_; clear hb ho14) | ((with_reducible refine gate_builtin (b := .append) (xs := #[.tmp 35, .tmp 36]) rfl ?_); (try (refine gate_guard (by rfl) ?_; dsimp only)); at_builtin; refine Kd.R_append_rows (Kd.int .u8) (w0 := w) w.heap.size rfl (.tmp 35) (.tmp 36) 22 5 (.int .u8 0) 1 rfl Try.underlying22 info5 rfl (by decide) (by omega) v199 y198 l2 _ _ _ (fun _ => True) (fun _ => False) rfl rfl ?aO ?aR (fun _ _ h => h) (fun _ h => h.elim) ?aF ?aB ?aS ?aL ?_; (case aR => repeat (first | exact (Kd.C_below HR2.out HB.out) | (with_reducible refine Kd.C_alloc ?_ _) | (with_reducible refine Kd.C_drewN ?_ _) | (with_reducible refine Kd.C_drew ?_))); (case aB => exact (by repeat (first | (with_reducible first | exact HB.out | apply below_alloc | apply pw_below_drewN | apply below_drew1) | exact HB.out))); (case aF => exact (fun _ _ => trivial)); (case aO => exact (by (with_reducible repeat (first | apply Kd.R_alloc | apply Kd.R_drewN | apply Kd.R_drew)); exact HO200.out)); (case aS => exact (below_size (by repeat (first | (with_reducible first | exact HB.out | apply below_alloc | apply pw_below_drewN | apply below_drew1) | exact HB.out)))); (case aL => have := LMc9.out; omega); intro v202 w15 ho hb hg hat; rw [← Ny201.out] at ho; have n0_ := Aside0.mk (hb); have n1_ := Aside0.mk (ho); clear HB; clear HO200; have HB := n0_; have HO203 := n1_; clear n0_ n1_; clear ho hb hg hat))
                  have n0_ := Aside0.mk (Kd.R_drew HO203.out)
                  have n1_ := Aside0.mk (below_drew1 HB.out)
                  clear HO203
                  clear HB
                  have HO203 := n0_
                  have HB := n1_
                  clear n0_ n1_
                  obtain ⟨Ao18, co18, eo18⟩ := Kd.R_slice HO203.out
                  (first | subst eo18 | (injection eo18 with f1_ f2_ f3_; have f4_ := f1_.symm; have f5_ := f3_.symm; clear f1_ f2_ f3_; subst f4_; subst f5_))
                  have q17 : (2 : Int) ≤ ((y201.length : Int) : Int) := of_decide_eq_true (by first | (with_reducible assumption) | assumption)
                  obtain ⟨i017, hi017, _, hsz17, _⟩ := info_parts info5
                  have hroom17 : y201.length ≤ co18 := (Kd.R_reads' HO203.out).2.1
                  have hC17 : Kd.C (Kd.int .u8) _ Ao18 y201.length y201 := (Kd.R_reads' HO203.out).2.2
                  have hcut17 := cut_from (P := Try.prog) 22 5 .i64 Try.underlying22 hi017 1 hsz17 Ao18 y201.length co18 2 (by omega) q17
                  have hr17 := Kd.C_drop (m := (2 : Int).toNat) (c := co18) hC17 (by omega) hroom17
                  obtain ⟨A17, hA17⟩ : ∃ A1, A1 = (if co18 = (2 : Int).toNat then Ao18 else (Ao18 : Option Addr).map (·.add ((2 : Int).toNat * 1))) := ⟨_, rfl⟩
                  obtain ⟨c17, hc17⟩ : ∃ c1, c1 = co18 - (2 : Int).toNat := ⟨_, rfl⟩
                  have hy17 : y208.length = y201.length - (2 : Int).toNat := (by rw [Ny208.out, List.length_drop] <;> omega)
                  rw [show (y201).drop (2 : Int).toNat = y208 from Ny208.out.symm] at hr17
                  replace hr17 : Kd.C (Kd.int .u8) _ A17 y208.length y208 := (by rw [hA17]; exact hr17)
                  rw [← hy17, ← hA17, ← hc17] at hcut17
                  have HR211 := Aside0.mk hr17
                  have HC211 := Aside0.mk (show y208.length ≤ c17 from by rw [hy17, hc17]; exact Nat.sub_le_sub_right hroom17 _)
                  clear hr17 hC17 hroom17 hi017 hsz17 hc17
                  have KY17 := Aside0.mk hy17
                  have KA17 := Aside0.mk hA17
                  clear hy17 hA17
                  have KL17 := Aside0.mk (show 2 ≤ y201.length from by omega)
                  replace q17 := eq_true q17
                  refine start_ (n := 9) (S := fun w' => True) (ds := []) #[false, false, false, false, false, false, false, false, false] (by kernel_rfl) rfl rfl trivial (fun hHeld => ?_); refine with_tabW phaetonref16_Wrap.tab4 phaetonref16_Wrap.bits4 (fun HT_ HW_ => ?_)
                  generalize w15.drew = w16 at HO203 HB HR211 hHeld ⊢
                  refine pure_ (i := 0) (N := some 38) (v := ?_) (a' := ?_) #[true, false, false, false, false, false, false, false, false] rfl rfl (any_of HT_.out (by kernel_rfl)) (fun _ _ _ h => h) (Or.inl ⟨by rfl, ?_⟩) ?_ ?_
                  rotate_left
                  · intro w'
                    go_simp
                    with_reducible rfl
                  rotate_left
                  · simp only [Act.put, List.setIfInBounds_toArray, List.set_cons_zero, List.set_cons_succ, i64_w, i32_w]
                    rfl
                  refine pure_ (i := 4) (N := some 42) (v := ?_) (a' := ?_) #[true, false, false, false, true, false, false, false, false] rfl rfl (any_of HT_.out (by kernel_rfl)) (fun _ _ _ h => h) (Or.inl ⟨by rfl, ?_⟩) ?_ ?_
                  rotate_left
                  · intro w'
                    go_simp
                    with_reducible rfl
                  rotate_left
                  · simp only [Act.put, List.setIfInBounds_toArray, List.set_cons_zero, List.set_cons_succ, i64_w, i32_w]
                    rfl
                  refine pure_ (i := 5) (N := some 43) (v := ?_) (a' := ?_) #[true, false, false, false, true, true, false, false, false] rfl rfl (any_of HT_.out (by kernel_rfl)) (fun _ _ _ h => h) (Or.inl ⟨by rfl, ?_⟩) ?_ ?_
                  rotate_left
                  · intro w'
                    go_simp
                    with_reducible rfl
                  rotate_left
                  · simp only [Act.put, List.setIfInBounds_toArray, List.set_cons_zero, List.set_cons_succ, i64_w, i32_w]
                    rfl
                  refine one_ (i := 1) (N := some 39) #[true, true, false, false, true, true, false, false, false] rfl rfl (one_of HT_.out (by kernel_rfl)) (by decide) (fun K hK => ?_)
                  refine goes_ Try.func22 (by kernel_rfl) rfl #[.slice Ao18 y201.length co18] (by rfl) rfl rfl (by (try simp only [List.map_toArray, List.map_cons, List.map_nil]); first | done | rfl | (simp only [List.length_drop, List.length_take]; rfl)) ?_
                  with_reducible refine (phaetonref02_Byte.calls k _ _ y201 t204 _ ?side1 ?side2 A10.out).mono ?_
                  (case side1 => repeat (first | exact (Kd.R_reads' HO203.out).2.2 | (with_reducible refine Kd.C_alloc ?_ _) | (with_reducible refine Kd.C_drewN ?_ _) | (with_reducible refine Kd.C_drew ?_)))
                  (case side2 => exact (Kd.R_reads' HO203.out).2.1)
                  rintro e w' ⟨rfl, ⟨nd, rfl⟩⟩
                  refine ⟨_, rfl, ?_⟩
                  refine hK.out _ _ trivial (fun hHeld => ?_)
                  clear hK K
                  refine norm_ (a' := ?_) ?_ ?_
                  rotate_left
                  · show Act.put _ (some 39) _ = _
                    simp only [Act.put, List.setIfInBounds_toArray, List.set_cons_zero, List.set_cons_succ, i64_w, i32_w]
                    rfl
                  refine pure_ (i := 2) (N := some 40) (v := ?_) (a' := ?_) #[true, true, true, false, true, true, false, false, false] rfl rfl (any_of HT_.out (by kernel_rfl)) (fun _ _ _ h => h) (Or.inl ⟨by rfl, ?_⟩) ?_ ?_
                  rotate_left
                  · intro w'
                    go_simp
                    with_reducible rfl
                  rotate_left
                  · simp only [Act.put, List.setIfInBounds_toArray, List.set_cons_zero, List.set_cons_succ, i64_w, i32_w]
                    rfl
                  refine one_ (i := 3) (N := some 41) #[true, true, true, true, true, true, false, false, false] rfl rfl (one_of HT_.out (by kernel_rfl)) (by decide) (fun K hK => ?_)
                  refine Kd.R_lit_step (Kd.int .u8) _ 5 ?hg (N := 41) ?hd (xs := ([(t204) % 256] : List Int)) (inner := [.int .u8 ((t204) % 256)]) (ok := fun _ => True) (okp := fun _ => True) ?hr ?hp (fun _ hk => hk) trivial (Below.refl _ _) (Nat.le_refl _) (by simp) ?_; (case hd => rfl); (case hg => rfl); (case hr => first | (go_simp; done) | (go_simp; rfl)); (case hp => exact (Reps.one (show Kd.M (Kd.int .u8) _ _ _ ((t204) % 256) [.int .u8 ((t204) % 256)] from rfl) (Reps.none _ _)))
                  intro v206 w19 ho20 hb hg_ hnew_
                  clear hg_ hnew_
                  (first | rw [← Ny205.out] at ho20 | (simp only [Int.reduceToNat] at ho20; rw [← Ny205.out] at ho20))
                  have n0_ := Aside0.mk (Kd.R_elder' (by (with_reducible repeat (first | apply Kd.R_alloc | apply Kd.R_drewN | apply Kd.R_drew)); exact HO203.out) (Kd.R_base ho20) hb)
                  have n1_ := Aside0.mk (Kd.R_lower (Kd.R_new' ho20 (Kd.R_lt (by (with_reducible repeat (first | apply Kd.R_alloc | apply Kd.R_drewN | apply Kd.R_drew)); exact HO203.out))) (below_size (by repeat (first | (with_reducible first | exact HB.out | apply below_alloc | apply pw_below_drewN | apply below_drew1) | exact HB.out))))
                  have n2_ := Aside0.mk (Kd.C_below (by repeat (first | (with_reducible exact HR211.out) | (with_reducible refine Kd.C_alloc ?_ _) | (with_reducible refine Kd.C_drewN ?_ _) | (with_reducible refine Kd.C_drew ?_) | exact HR211.out)) hb)
                  have n3_ := Aside0.mk (below_step (by repeat (first | (with_reducible first | exact HB.out | apply below_alloc | apply pw_below_drewN | apply below_drew1) | exact HB.out)) hb)
                  clear HO203
                  clear HR211
                  clear HB
                  have HO203 := n0_
                  have HO207 := n1_
                  have HR211 := n2_
                  have HB := n3_
                  clear n0_ n1_ n2_ n3_
                  clear hb ho20
                  refine hK.out _ _ trivial (fun hHeld => ?_)
                  clear hK K
                  refine norm_ (a' := ?_) ?_ ?_
                  rotate_left
                  · show Act.put _ (some 41) _ = _
                    simp only [Act.put, List.setIfInBounds_toArray, List.set_cons_zero, List.set_cons_succ, i64_w, i32_w]
                    rfl
                  refine one_ (i := 6) (N := some 44) #[true, true, true, true, true, true, true, false, false] rfl rfl (one_of HT_.out (by kernel_rfl)) (by decide) (fun K hK => ?_)
                  refine Kd.R_append_rows_step (Kd.int .u8) (w0 := w) w.heap.size (by rfl) (.tmp 41) (.tmp 43) 22 5 (.int .u8 0) 1 rfl Try.underlying22 info5 rfl (by decide) (by omega) v206 y205 y208 _ _ _ (fun k_ => some k_ ≠ (.slice Ao18 y201.length co18 : Value).ownBlock) (fun _ => False) rfl rfl ?aO ?aR (fun _ _ h => h) (fun _ h => h.elim) ?aF ?aB ?aS ?aL ?_
                  (case aR => repeat (first | exact (by repeat (first | (with_reducible exact HR211.out) | (with_reducible refine Kd.C_alloc ?_ _) | (with_reducible refine Kd.C_drewN ?_ _) | (with_reducible refine Kd.C_drew ?_) | exact HR211.out)) | (with_reducible refine Kd.C_alloc ?_ _) | (with_reducible refine Kd.C_drewN ?_ _) | (with_reducible refine Kd.C_drew ?_)))
                  (case aB => exact (by repeat (first | (with_reducible first | exact HB.out | apply below_alloc | apply pw_below_drewN | apply below_drew1) | exact HB.out)))
                  (case aF => exact (fun k_ hk => Kd.fresh' (Kd.R_lt (by (with_reducible repeat (first | apply Kd.R_alloc | apply Kd.R_drewN | apply Kd.R_drew)); exact HO203.out)) k_ hk))
                  (case aO => exact (by (with_reducible repeat (first | apply Kd.R_alloc | apply Kd.R_drewN | apply Kd.R_drew)); exact Kd.R_mono HO207.out (fun _ hk => hk.2)))
                  (case aS => exact (below_size (by repeat (first | (with_reducible first | exact HB.out | apply below_alloc | apply pw_below_drewN | apply below_drew1) | exact HB.out))))
                  (case aL => have := LMc12.out; omega)
                  intro v213 w21 ho hb hg hat
                  rw [← Ny212.out] at ho
                  have n0_ := Aside0.mk (Kd.R_after (ok := (fun _ => True)) (by (with_reducible repeat (first | apply Kd.R_alloc | apply Kd.R_drewN | apply Kd.R_drew)); exact HO203.out) hg hat)
                  have n1_ := Aside0.mk (hb)
                  have n2_ := Aside0.mk ((show Kd.C (Kd.int .u8) w21 A17 y208.length y208 from by rw [Ny208.out, KA17.out]; exact Kd.C_drop (m := 2) (c := co18) ((Kd.R_reads' (Kd.R_after (ok := (fun _ => True)) (by (with_reducible repeat (first | apply Kd.R_alloc | apply Kd.R_drewN | apply Kd.R_drew)); exact HO203.out) hg hat)).2.2) KL17.out ((Kd.R_reads' (Kd.R_after (ok := (fun _ => True)) (by (with_reducible repeat (first | apply Kd.R_alloc | apply Kd.R_drewN | apply Kd.R_drew)); exact HO203.out) hg hat)).2.1)))
                  have n3_ := Aside0.mk (ho)
                  clear HO203
                  clear HB
                  clear HR211
                  clear HO207
                  have HO203 := n0_
                  have HB := n1_
                  have HR211 := n2_
                  have HO214 := n3_
                  clear n0_ n1_ n2_ n3_
                  clear ho hb hg hat
                  refine hK.out _ _ trivial (fun hHeld => ?_)
                  clear hK K
                  refine norm_ (a' := ?_) ?_ ?_
                  rotate_left
                  · show Act.put _ (some 44) _ = _
                    simp only [Act.put, List.setIfInBounds_toArray, List.set_cons_zero, List.set_cons_succ, i64_w, i32_w]
                    rfl
                  refine pure_ (i := 7) (N := some 6) (v := ?_) (a' := ?_) #[true, true, true, true, true, true, true, true, false] rfl rfl (any_of HT_.out (by kernel_rfl)) (fun _ _ _ h => h) (Or.inl ⟨by rfl, ?_⟩) ?_ ?_
                  rotate_left
                  · intro w'
                    go_simp
                    with_reducible rfl
                  rotate_left
                  · simp only [Act.put, List.setIfInBounds_toArray, List.set_cons_zero, List.set_cons_succ, i64_w, i32_w]
                    rfl
                  refine pure_ (i := 8) (N := some 7) (v := ?_) (a' := ?_) #[true, true, true, true, true, true, true, true, true] rfl rfl (any_of HT_.out (by kernel_rfl)) (fun _ _ _ h => h) (Or.inl ⟨by rfl, ?_⟩) ?_ ?_
                  rotate_left
                  · intro w'
                    go_simp
                    with_reducible rfl
                  rotate_left
                  · simp only [Act.put, List.setIfInBounds_toArray, List.set_cons_zero, List.set_cons_succ, i64_w, i32_w]
                    rfl
                  refine done_ (done_of HT_.out (by kernel_rfl)) ?_
                  try go_wp2
                  go_ret2
                  exact ⟨_, by first | rfl | (simp [errW_none, errW_some] <;> rfl) | (simp [*, errW_none, errW_some] <;> rfl), by (with_reducible repeat (first | apply Kd.R_alloc | apply Kd.R_drewN | apply Kd.R_drew)); exact Kd.R_mono HO214.out (fun _ hk => trivial), by repeat (first | (with_reducible first | exact HB.out | apply below_alloc | apply pw_below_drewN | apply below_drew1) | exact HB.out)⟩
                · rw [if_neg c12] at H
                  exact absurd H (by simp)
              · rw [if_neg c11] at H
                exact absurd H (by simp)
            · rw [if_neg c9] at H
              exact absurd H (by simp)

end Go.Proofs.Ytfjffajmagefkaa.Px

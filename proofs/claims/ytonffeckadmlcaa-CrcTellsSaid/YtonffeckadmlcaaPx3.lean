-- Written by myprint.py, a program of this session's, over the kit's print.py; not a text of print.sh's own.
import Derived.Test.YtonffeckadmlcaaPx0
import Derived.Test.YtonffeckadmlcaaPx1
import Derived.Test.YtonffeckadmlcaaPx2
namespace Go.Proofs.Ytonffeckadmlcaa.Px
open Go.RowKit Go.Proofs.YtonffeckadmlcaaW.PrintWords Go.Proofs.YtonffeckadmlcaaW.PrintLast Go.Proofs.YtonffeckadmlcaaW.PrintMore
attribute [local go_sem] max2_int min2_int max_two min_two max_three min_three max_four min_four   -- for this text's walks alone
set_option linter.unusedVariables false
set_option linter.unusedSimpArgs false

/-! ### phaetonref02_Byte: function 15 -/
mutual
def phaetonref02_Byte.l0 : Nat → List Int → Int → Int → Option (Int)
  | 0, _, _, _ => none
  | k + 1, x0, x3, x4 => if x4 < (x0.length : Int) then (if 0 ≤ x4 then (phaetonref02_Byte.l1 k x0 (Go.bits .xor .i64 x3 (wrap64 (rd x0 x4))) x4 0) else (none)) else (some (Go.bits .xor .i64 x3 255))
def phaetonref02_Byte.l1 : Nat → List Int → Int → Int → Int → Option (Int)
  | 0, _, _, _, _ => none
  | k + 1, x0, x3, x4, x5 => if x5 < 8 then (if x3 ≥ 128 then (phaetonref02_Byte.l1 k x0 (Go.bits .xor .i64 (Int.tmod (wrap64 (x3 * 2)) 256) 29) x4 (wrap64 (x5 + 1))) else (phaetonref02_Byte.l1 k x0 (wrap64 (x3 * 2)) x4 (wrap64 (x5 + 1)))) else (phaetonref02_Byte.l0 k x0 x3 (wrap64 (x4 + 1)))
end
def phaetonref02_Byte.f (k : Nat) (l0 : List Int) : Option (Int) := phaetonref02_Byte.l0 k l0 255 0
theorem phaetonref02_Byte.mono_l : ∀ k, (∀ y0 y1 y2, LeO (phaetonref02_Byte.l0 k y0 y1 y2) (phaetonref02_Byte.l0 (k + 1) y0 y1 y2)) ∧ (∀ y0 y1 y2 y3, LeO (phaetonref02_Byte.l1 k y0 y1 y2 y3) (phaetonref02_Byte.l1 (k + 1) y0 y1 y2 y3))
  | 0 => ⟨fun _ _ _ r h => by simp [phaetonref02_Byte.l0] at h, fun _ _ _ _ r h => by simp [phaetonref02_Byte.l1] at h⟩
  | k + 1 => by
    obtain ⟨ih0, ih1⟩ := phaetonref02_Byte.mono_l k
    refine ⟨?_, ?_⟩
    · intro y0 y1 y2
      unfold phaetonref02_Byte.l0
      repeat' first
      | (with_reducible exact ih0 _ _ _)
      | (with_reducible exact ih1 _ _ _ _)
      | (with_reducible exact LeO.refl _)
      | (with_reducible exact LeO.none _)
      | (with_reducible refine LeO.ite ?_ ?_)
      | (with_reducible refine LeO.bind ?_ (fun _ => ?_))
      | exact ih0 _ _ _
      | exact ih1 _ _ _ _
      | exact LeO.none _
      | refine LeO.ite ?_ ?_
      | refine LeO.bind ?_ (fun _ => ?_)
    · intro y0 y1 y2 y3
      unfold phaetonref02_Byte.l1
      repeat' first
      | (with_reducible exact ih0 _ _ _)
      | (with_reducible exact ih1 _ _ _ _)
      | (with_reducible exact LeO.refl _)
      | (with_reducible exact LeO.none _)
      | (with_reducible refine LeO.ite ?_ ?_)
      | (with_reducible refine LeO.bind ?_ (fun _ => ?_))
      | exact ih0 _ _ _
      | exact ih1 _ _ _ _
      | exact LeO.none _
      | refine LeO.ite ?_ ?_
      | refine LeO.bind ?_ (fun _ => ?_)
theorem phaetonref02_Byte.mono : ∀ a0 k, LeO (phaetonref02_Byte.f k a0) (phaetonref02_Byte.f (k + 1) a0) := by
  intro a0 k
  obtain ⟨ih0, ih1⟩ := phaetonref02_Byte.mono_l k
  unfold phaetonref02_Byte.f
  repeat' first
      | (with_reducible exact ih0 _ _ _)
      | (with_reducible exact ih1 _ _ _ _)
      | (with_reducible exact LeO.refl _)
      | (with_reducible exact LeO.none _)
      | (with_reducible refine LeO.ite ?_ ?_)
      | (with_reducible refine LeO.bind ?_ (fun _ => ?_))
      | exact ih0 _ _ _
      | exact ih1 _ _ _ _
      | exact LeO.none _
      | refine LeO.ite ?_ ?_
      | refine LeO.bind ?_ (fun _ => ?_)
set_option maxHeartbeats 8000000 in
set_option maxRecDepth 100000 in
theorem phaetonref02_Byte.calls (k : Nat) (A0 : Option Addr) (c0 : Nat) (l0 : List Int) (r : Int) (w : World) (hr0 : Kd.C (Kd.int .u8) w A0 l0.length l0) (hc0 : l0.length ≤ c0) (h : phaetonref02_Byte.f k l0 = some r) :
    Calls Try.prog 15 #[.slice A0 l0.length c0] w fun e w' => e = .returned (.int .i64 r) ∧ Drawn0 w w' := by
  have HR0 := Aside0.mk hr0
  have HC0 := Aside0.mk hc0
  clear hr0 hc0
  have H : (phaetonref02_Byte.l0 k l0 255 0) = some r := h
  clear h
  have H' := Aside0.mk H
  clear H
  go_enter Try.func15, Try.ntmps15
  go_wp2
  go_loopg [3, 4] k (fun kq v3 v4 w' => ∃ (x3_1 : Int) (x4_1 : Int), v3 = .int .i64 x3_1 ∧ v4 = .int .i64 x4_1 ∧ Aside0 (phaetonref02_Byte.l0 kq l0 x3_1 x4_1 = some r) ∧ Aside0 (kq ≤ k) ∧ Drawn0 w w')
  case atStart => exact ⟨(255), (0), (by first | rfl | (simp; done) | (simp [*]; done)), (by first | rfl | (simp; done) | (simp [*]; done)), H', ⟨Nat.le_refl _⟩, by repeat (first | exact Drawn0.refl _ | apply Drawn0.step)⟩
  case round =>
    clear H'
    try clear c1
    obtain ⟨x3_1, x4_1, rfl, rfl, HA, HK1, ⟨m1, rfl⟩⟩ := hrel
    cases gk with
    | zero => exact absurd HA.out (by simp [phaetonref02_Byte.l0])
    | succ k1 =>
      have H := HA.out
      clear HA
      simp only [phaetonref02_Byte.l0] at H
      by_cases c2 : x4_1 < (l0.length : Int)
      · rw [if_pos c2] at H
        have c2b0 : decide (x4_1 < (l0.length : Int)) = true := decide_eq_true c2
        clear c2
        by_cases c3 : 0 ≤ x4_1
        · rw [if_pos c3] at H
          have c3b0 : decide (0 ≤ x4_1) = true := decide_eq_true c3
          clear c3
          have H' := Aside0.mk H
          clear H
          have p137 : 0 ≤ (x4_1 : Int) := of_decide_eq_true (by first | (with_reducible assumption) | assumption)
          have q137 : x4_1 < (l0.length : Int) := of_decide_eq_true (by first | (with_reducible assumption) | assumption)
          obtain ⟨ad137, e137, hx137_0⟩ := Kd.at_int HR0.out x4_1 p137 q137
          cases e137
          replace p137 := eq_true p137
          replace q137 := eq_true q137
          go_wp2
          go_loopg [3, 5] k1 (fun kq v3 v5 w' => ∃ (x3_2 : Int) (x5_2 : Int), v3 = .int .i64 x3_2 ∧ v5 = .int .i64 x5_2 ∧ Aside0 (phaetonref02_Byte.l1 kq l0 x3_2 x4_1 x5_2 = some r) ∧ Aside0 (kq ≤ k1) ∧ Drawn0 w w')
          case atStart => exact ⟨(Go.bits .xor .i64 x3_1 (wrap64 (rd l0 x4_1))), (0), (by first | rfl | (simp; done) | (simp [*]; done)), (by first | rfl | (simp; done) | (simp [*]; done)), H', ⟨Nat.le_refl _⟩, by repeat (first | exact Drawn0.refl _ | apply Drawn0.step)⟩
          case round =>
            clear H'
            try clear c1
            try clear p1
            try clear q1
            try clear hx1
            try clear c2
            try clear c2b0
            try clear p2
            try clear c3
            try clear c3b0
            try clear hx137_0
            try clear p137
            try clear q137
            obtain ⟨x3_2, x5_2, rfl, rfl, HA, HK2, ⟨m2, rfl⟩⟩ := hrel
            cases gk with
            | zero => exact absurd HA.out (by simp [phaetonref02_Byte.l1])
            | succ k2 =>
              have H := HA.out
              clear HA
              simp only [phaetonref02_Byte.l1] at H
              by_cases c4 : x5_2 < 8
              · rw [if_pos c4] at H
                have c4b0 : decide (x5_2 < 8) = true := decide_eq_true c4
                clear c4
                by_cases c5 : x3_2 ≥ 128
                · rw [if_pos c5] at H
                  have c5b0 : decide (128 ≤ x3_2) = true := decide_eq_true c5
                  clear c5
                  have H' := Aside0.mk H
                  clear H
                  go_wp2
                  go_roundg k2
                  case measure => have := HK1.out; have := HK2.out; omega
                  case rel => exact ⟨(Go.bits .xor .i64 (Int.tmod (wrap64 (x3_2 * 2)) 256) 29), (wrap64 (x5_2 + 1)), (by first | rfl | (simp; done) | (simp [*]; done)), (by first | rfl | (simp; done) | (simp [*]; done)), H', ⟨by have := HK1.out; have := HK2.out; omega⟩, by repeat (first | exact Drawn0.refl _ | apply Drawn0.step)⟩
                · rw [if_neg c5] at H
                  have c5b0 : decide (128 ≤ x3_2) = false := decide_eq_false c5
                  clear c5
                  have H' := Aside0.mk H
                  clear H
                  go_wp2
                  go_roundg k2
                  case measure => have := HK1.out; have := HK2.out; omega
                  case rel => exact ⟨(wrap64 (x3_2 * 2)), (wrap64 (x5_2 + 1)), (by first | rfl | (simp; done) | (simp [*]; done)), (by first | rfl | (simp; done) | (simp [*]; done)), H', ⟨by have := HK1.out; have := HK2.out; omega⟩, by repeat (first | exact Drawn0.refl _ | apply Drawn0.step)⟩
              · rw [if_neg c4] at H
                have c4b0 : decide (x5_2 < 8) = false := decide_eq_false c4
                clear c4
                have H' := Aside0.mk H
                clear H
                go_wp2
                go_roundg k2
                case measure => have := HK1.out; have := HK2.out; omega
                case rel => exact ⟨(x3_2), (wrap64 (x4_1 + 1)), (by first | rfl | (simp; done) | (simp [*]; done)), (by first | rfl | (simp; done) | (simp [*]; done)), H', ⟨by have := HK1.out; have := HK2.out; omega⟩, by repeat (first | exact Drawn0.refl _ | apply Drawn0.step)⟩
        · rw [if_neg c3] at H
          exact absurd H (by simp)
      · rw [if_neg c2] at H
        have c2b0 : decide (x4_1 < (l0.length : Int)) = false := decide_eq_false c2
        clear c2
        obtain rfl := Option.some.inj H
        go_wp2
        go_ret
        exact ⟨by first | rfl | (simp; done) | (simp [*]; done), by repeat (first | exact Drawn0.refl _ | apply Drawn0.step)⟩

/-! ### phaetonref02_More: function 19 -/
mutual
def phaetonref02_More.l0 : Nat → List Int → Int → Int → Option (Int)
  | 0, _, _, _ => none
  | k + 1, x1, x5, x6 => if x6 < (x1.length : Int) then (if 0 ≤ x6 then (phaetonref02_More.l1 k x1 (Go.bits .xor .u32 x5 ((rd x1 x6) % 4294967296)) x6 0) else (none)) else (some (wrap64 (Go.bits .xor .u32 IntKind.u32.max x5)))
def phaetonref02_More.l1 : Nat → List Int → Int → Int → Int → Option (Int)
  | 0, _, _, _, _ => none
  | k + 1, x1, x5, x6, x7 => if x7 < 8 then (if (Int.tmod x5 2) = 1 then (phaetonref02_More.l1 k x1 (Go.bits .xor .u32 (x5 / 2) 3988292384) x6 (wrap64 (x7 + 1))) else (phaetonref02_More.l1 k x1 (x5 / 2) x6 (wrap64 (x7 + 1)))) else (phaetonref02_More.l0 k x1 x5 (wrap64 (x6 + 1)))
end
def phaetonref02_More.f (k : Nat) (a0 : Int) (l1 : List Int) : Option (Int) := phaetonref02_More.l0 k l1 (Go.bits .xor .u32 IntKind.u32.max ((a0) % 4294967296)) 0
theorem phaetonref02_More.mono_l : ∀ k, (∀ y0 y1 y2, LeO (phaetonref02_More.l0 k y0 y1 y2) (phaetonref02_More.l0 (k + 1) y0 y1 y2)) ∧ (∀ y0 y1 y2 y3, LeO (phaetonref02_More.l1 k y0 y1 y2 y3) (phaetonref02_More.l1 (k + 1) y0 y1 y2 y3))
  | 0 => ⟨fun _ _ _ r h => by simp [phaetonref02_More.l0] at h, fun _ _ _ _ r h => by simp [phaetonref02_More.l1] at h⟩
  | k + 1 => by
    obtain ⟨ih0, ih1⟩ := phaetonref02_More.mono_l k
    refine ⟨?_, ?_⟩
    · intro y0 y1 y2
      unfold phaetonref02_More.l0
      repeat' first
      | (with_reducible exact ih0 _ _ _)
      | (with_reducible exact ih1 _ _ _ _)
      | (with_reducible exact LeO.refl _)
      | (with_reducible exact LeO.none _)
      | (with_reducible refine LeO.ite ?_ ?_)
      | (with_reducible refine LeO.bind ?_ (fun _ => ?_))
      | exact ih0 _ _ _
      | exact ih1 _ _ _ _
      | exact LeO.none _
      | refine LeO.ite ?_ ?_
      | refine LeO.bind ?_ (fun _ => ?_)
    · intro y0 y1 y2 y3
      unfold phaetonref02_More.l1
      repeat' first
      | (with_reducible exact ih0 _ _ _)
      | (with_reducible exact ih1 _ _ _ _)
      | (with_reducible exact LeO.refl _)
      | (with_reducible exact LeO.none _)
      | (with_reducible refine LeO.ite ?_ ?_)
      | (with_reducible refine LeO.bind ?_ (fun _ => ?_))
      | exact ih0 _ _ _
      | exact ih1 _ _ _ _
      | exact LeO.none _
      | refine LeO.ite ?_ ?_
      | refine LeO.bind ?_ (fun _ => ?_)
theorem phaetonref02_More.mono : ∀ a0 a1 k, LeO (phaetonref02_More.f k a0 a1) (phaetonref02_More.f (k + 1) a0 a1) := by
  intro a0 a1 k
  obtain ⟨ih0, ih1⟩ := phaetonref02_More.mono_l k
  unfold phaetonref02_More.f
  repeat' first
      | (with_reducible exact ih0 _ _ _)
      | (with_reducible exact ih1 _ _ _ _)
      | (with_reducible exact LeO.refl _)
      | (with_reducible exact LeO.none _)
      | (with_reducible refine LeO.ite ?_ ?_)
      | (with_reducible refine LeO.bind ?_ (fun _ => ?_))
      | exact ih0 _ _ _
      | exact ih1 _ _ _ _
      | exact LeO.none _
      | refine LeO.ite ?_ ?_
      | refine LeO.bind ?_ (fun _ => ?_)
set_option maxHeartbeats 8000000 in
set_option maxRecDepth 100000 in
theorem phaetonref02_More.calls (k : Nat) (a0 : Int) (A1 : Option Addr) (c1 : Nat) (l1 : List Int) (r : Int) (w : World) (hr1 : Kd.C (Kd.int .u8) w A1 l1.length l1) (hc1 : l1.length ≤ c1) (h : phaetonref02_More.f k a0 l1 = some r) :
    Calls Try.prog 19 #[.int .i64 a0, .slice A1 l1.length c1] w fun e w' => e = .returned (.int .i64 r) ∧ Drawn0 w w' := by
  have HR1 := Aside0.mk hr1
  have HC1 := Aside0.mk hc1
  clear hr1 hc1
  have H : (phaetonref02_More.l0 k l1 (Go.bits .xor .u32 IntKind.u32.max ((a0) % 4294967296)) 0) = some r := h
  clear h
  have H' := Aside0.mk H
  clear H
  go_enter Try.func19, Try.ntmps19
  go_wp2
  go_loopg [5, 6] k (fun kq v5 v6 w' => ∃ (x5_1 : Int) (x6_1 : Int), v5 = .int .u32 x5_1 ∧ v6 = .int .i64 x6_1 ∧ Aside0 (phaetonref02_More.l0 kq l1 x5_1 x6_1 = some r) ∧ Aside0 (kq ≤ k) ∧ Drawn0 w w')
  case atStart => exact ⟨(Go.bits .xor .u32 IntKind.u32.max ((a0) % 4294967296)), (0), (by first | rfl | (simp; done) | (simp [*]; done)), (by first | rfl | (simp; done) | (simp [*]; done)), H', ⟨Nat.le_refl _⟩, by repeat (first | exact Drawn0.refl _ | apply Drawn0.step)⟩
  case round =>
    clear H'
    try clear c1
    try clear p2
    obtain ⟨x5_1, x6_1, rfl, rfl, HA, HK1, ⟨m1, rfl⟩⟩ := hrel
    cases gk with
    | zero => exact absurd HA.out (by simp [phaetonref02_More.l0])
    | succ k1 =>
      have H := HA.out
      clear HA
      simp only [phaetonref02_More.l0] at H
      by_cases c3 : x6_1 < (l1.length : Int)
      · rw [if_pos c3] at H
        have c3b0 : decide (x6_1 < (l1.length : Int)) = true := decide_eq_true c3
        clear c3
        by_cases c4 : 0 ≤ x6_1
        · rw [if_pos c4] at H
          have c4b0 : decide (0 ≤ x6_1) = true := decide_eq_true c4
          clear c4
          have H' := Aside0.mk H
          clear H
          have p138 : 0 ≤ (x6_1 : Int) := of_decide_eq_true (by first | (with_reducible assumption) | assumption)
          have q138 : x6_1 < (l1.length : Int) := of_decide_eq_true (by first | (with_reducible assumption) | assumption)
          obtain ⟨ad138, e138, hx138_0⟩ := Kd.at_int HR1.out x6_1 p138 q138
          cases e138
          replace p138 := eq_true p138
          replace q138 := eq_true q138
          go_wp2
          go_loopg [5, 7] k1 (fun kq v5 v7 w' => ∃ (x5_2 : Int) (x7_2 : Int), v5 = .int .u32 x5_2 ∧ v7 = .int .i64 x7_2 ∧ Aside0 (phaetonref02_More.l1 kq l1 x5_2 x6_1 x7_2 = some r) ∧ Aside0 (kq ≤ k1) ∧ Drawn0 w w')
          case atStart => exact ⟨(Go.bits .xor .u32 x5_1 ((rd l1 x6_1) % 4294967296)), (0), (by first | rfl | (simp; done) | (simp [*]; done)), (by first | rfl | (simp; done) | (simp [*]; done)), H', ⟨Nat.le_refl _⟩, by repeat (first | exact Drawn0.refl _ | apply Drawn0.step)⟩
          case round =>
            clear H'
            try clear c1
            try clear p1
            try clear q1
            try clear hx1
            try clear p2
            try clear c3
            try clear c3b0
            try clear c4
            try clear c4b0
            try clear hx138_0
            try clear p138
            try clear p2
            try clear q138
            obtain ⟨x5_2, x7_2, rfl, rfl, HA, HK2, ⟨m2, rfl⟩⟩ := hrel
            cases gk with
            | zero => exact absurd HA.out (by simp [phaetonref02_More.l1])
            | succ k2 =>
              have H := HA.out
              clear HA
              simp only [phaetonref02_More.l1] at H
              by_cases c5 : x7_2 < 8
              · rw [if_pos c5] at H
                have c5b0 : decide (x7_2 < 8) = true := decide_eq_true c5
                clear c5
                by_cases c6 : (Int.tmod x5_2 2) = 1
                · rw [if_pos c6] at H
                  have c6b0 : ((Int.tmod x5_2 2) == 1) = true := beq_iff_eq.mpr c6
                  have c6b1 : ((Int.tmod x5_2 2) != 1) = false := bne_eq_false_iff_eq.mpr c6
                  clear c6
                  have H' := Aside0.mk H
                  clear H
                  go_wp2
                  go_roundg k2
                  case measure => have := HK1.out; have := HK2.out; omega
                  case rel => exact ⟨(Go.bits .xor .u32 (x5_2 / 2) 3988292384), (wrap64 (x7_2 + 1)), (by first | rfl | (simp; done) | (simp [*]; done)), (by first | rfl | (simp; done) | (simp [*]; done)), H', ⟨by have := HK1.out; have := HK2.out; omega⟩, by repeat (first | exact Drawn0.refl _ | apply Drawn0.step)⟩
                · rw [if_neg c6] at H
                  have c6b0 : ((Int.tmod x5_2 2) == 1) = false := beq_eq_false_iff_ne.mpr c6
                  have c6b1 : ((Int.tmod x5_2 2) != 1) = true := bne_iff_ne.mpr c6
                  have H' := Aside0.mk H
                  clear H
                  go_wp2
                  go_roundg k2
                  case measure => have := HK1.out; have := HK2.out; omega
                  case rel => exact ⟨(x5_2 / 2), (wrap64 (x7_2 + 1)), (by first | rfl | (simp; done) | (simp [*]; done)), (by first | rfl | (simp; done) | (simp [*]; done)), H', ⟨by have := HK1.out; have := HK2.out; omega⟩, by repeat (first | exact Drawn0.refl _ | apply Drawn0.step)⟩
              · rw [if_neg c5] at H
                have c5b0 : decide (x7_2 < 8) = false := decide_eq_false c5
                clear c5
                have H' := Aside0.mk H
                clear H
                go_wp2
                go_roundg k2
                case measure => have := HK1.out; have := HK2.out; omega
                case rel => exact ⟨(x5_2), (wrap64 (x6_1 + 1)), (by first | rfl | (simp; done) | (simp [*]; done)), (by first | rfl | (simp; done) | (simp [*]; done)), H', ⟨by have := HK1.out; have := HK2.out; omega⟩, by repeat (first | exact Drawn0.refl _ | apply Drawn0.step)⟩
        · rw [if_neg c4] at H
          exact absurd H (by simp)
      · rw [if_neg c3] at H
        have c3b0 : decide (x6_1 < (l1.length : Int)) = false := decide_eq_false c3
        clear c3
        obtain rfl := Option.some.inj H
        go_wp2
        go_ret
        exact ⟨by first | rfl | (simp; done) | (simp [*]; done), by repeat (first | exact Drawn0.refl _ | apply Drawn0.step)⟩

/-! ### phaetonref02_Word: function 17 -/
def phaetonref02_Word.f (k : Nat) (l0 : List Int) : Option (Int) := (phaetonref02_More.f k 0 l0).bind fun t139 => (some t139)
theorem phaetonref02_Word.mono : ∀ a0 k, LeO (phaetonref02_Word.f k a0) (phaetonref02_Word.f (k + 1) a0) := by
  intro a0 k
  unfold phaetonref02_Word.f
  repeat' first
      | (with_reducible exact phaetonref02_More.mono _ _ _)
      | (with_reducible exact LeO.refl _)
      | (with_reducible exact LeO.none _)
      | (with_reducible refine LeO.ite ?_ ?_)
      | (with_reducible refine LeO.bind ?_ (fun _ => ?_))
      | exact phaetonref02_More.mono _ _ _
      | exact LeO.none _
      | refine LeO.ite ?_ ?_
      | refine LeO.bind ?_ (fun _ => ?_)
set_option maxHeartbeats 8000000 in
set_option maxRecDepth 100000 in
theorem phaetonref02_Word.calls (k : Nat) (A0 : Option Addr) (c0 : Nat) (l0 : List Int) (r : Int) (w : World) (hr0 : Kd.C (Kd.int .u8) w A0 l0.length l0) (hc0 : l0.length ≤ c0) (h : phaetonref02_Word.f k l0 = some r) :
    Calls Try.prog 17 #[.slice A0 l0.length c0] w fun e w' => e = .returned (.int .i64 r) ∧ Drawn0 w w' := by
  have HR0 := Aside0.mk hr0
  have HC0 := Aside0.mk hc0
  clear hr0 hc0
  have H : ((phaetonref02_More.f k 0 l0).bind fun t139 => (some t139)) = some r := h
  clear h
  replace H := Option.bind_eq_some_iff.mp H
  obtain ⟨t139, A20, H⟩ := H
  replace H : (some t139) = some r := H
  have A2 := Aside0.mk A20
  clear A20
  obtain rfl := Option.some.inj H
  go_enter Try.func17, Try.ntmps17
  go_wp2_with (first | ((with_reducible refine gate_callee (f := 19) rfl ?_); refine goesL_ (some 4) rfl rfl Try.func19 (by kernel_rfl) rfl #[.int .i64 0, .slice A0 l0.length c0] rfl (by (try simp only [List.map_toArray, List.map_cons, List.map_nil]); first | done | rfl | (simp only [List.length_drop, List.length_take]; rfl)) ?_; (with_reducible refine (phaetonref02_More.calls k 0 _ _ l0 t139 _ ?side1 ?side2 A2.out).mono ?_); (case side1 => repeat (first | exact HR0.out | (with_reducible refine Kd.C_alloc ?_ _) | (with_reducible refine Kd.C_drewN ?_ _) | (with_reducible refine Kd.C_drew ?_))); (case side2 => exact HC0.out); rintro e w' ⟨rfl, ⟨nd, rfl⟩⟩; refine ⟨_, rfl, ?_⟩))
  go_ret
  exact ⟨by first | rfl | (simp; done) | (simp [*]; done), by repeat (first | exact Drawn0.refl _ | apply Drawn0.step)⟩

/-! ### phaetonlaw02_CrcTells: function 3 -/
def phaetonlaw02_CrcTells.j0 : Nat → List Int → List Int → Int → Bool → Bool → Option (Bool)
  | 0, _, _, _, _, _ => none
  | k + 1, x0, x1, x2, x7, x16 => if x16 = true then (if x7 = true then (some true) else (none)) else (if x7 = true then ((phaetonref01_Right.f k x0).bind fun t141 => (if t141 = true then ((crc_Bits.f x0).bind fun t142 => ((phaetonref02_Bits.f k x0).bind fun t143 => (if t142 = t143 then ((crc_Byte.f x1).bind fun t144 => ((phaetonref02_Byte.f k x1).bind fun t145 => (if t144 = t145 then ((crc_Word.f x1).bind fun t146 => ((phaetonref02_Word.f k x1).bind fun t147 => (if t146 = t147 then ((crc_More.f x2 x1).bind fun t148 => ((phaetonref02_More.f k x2 x1).bind fun t149 => (if t148 = t149 then (some true) else (none)))) else (none)))) else (none)))) else (none)))) else ((crc_Byte.f x1).bind fun t150 => ((phaetonref02_Byte.f k x1).bind fun t151 => (if t150 = t151 then ((crc_Word.f x1).bind fun t152 => ((phaetonref02_Word.f k x1).bind fun t153 => (if t152 = t153 then ((crc_More.f x2 x1).bind fun t154 => ((phaetonref02_More.f k x2 x1).bind fun t155 => (if t154 = t155 then (some true) else (none)))) else (none)))) else (none)))))) else (none))
def phaetonlaw02_CrcTells.f (k : Nat) (l0 : List Int) (l1 : List Int) (a2 : Int) : Option (Bool) := (phaetonlaw02_head.f k).bind fun t140 => (if (l0.length : Int) > 2000 then (phaetonlaw02_CrcTells.j0 k l0 l1 a2 t140 true) else (phaetonlaw02_CrcTells.j0 k l0 l1 a2 t140 (decide ((l1.length : Int) > 1000))))
theorem phaetonlaw02_CrcTells.mono_l : ∀ k, (∀ y0 y1 y2 y3 y4, LeO (phaetonlaw02_CrcTells.j0 k y0 y1 y2 y3 y4) (phaetonlaw02_CrcTells.j0 (k + 1) y0 y1 y2 y3 y4))
  | 0 => fun _ _ _ _ _ r h => by simp [phaetonlaw02_CrcTells.j0] at h
  | k + 1 => by
    have ih0 := phaetonlaw02_CrcTells.mono_l k
    · intro y0 y1 y2 y3 y4
      unfold phaetonlaw02_CrcTells.j0
      repeat' first
      | (with_reducible exact ih0 _ _ _ _ _)
      | (with_reducible exact phaetonlaw02_head.mono _)
      | (with_reducible exact phaetonref01_Right.mono _ _)
      | (with_reducible exact phaetonref02_Bits.mono _ _)
      | (with_reducible exact phaetonref02_Byte.mono _ _)
      | (with_reducible exact phaetonref02_More.mono _ _ _)
      | (with_reducible exact phaetonref02_Word.mono _ _)
      | (with_reducible exact LeO.refl _)
      | (with_reducible exact LeO.none _)
      | (with_reducible refine LeO.ite ?_ ?_)
      | (with_reducible refine LeO.bind ?_ (fun _ => ?_))
      | exact ih0 _ _ _ _ _
      | exact phaetonlaw02_head.mono _
      | exact phaetonref01_Right.mono _ _
      | exact phaetonref02_Bits.mono _ _
      | exact phaetonref02_Byte.mono _ _
      | exact phaetonref02_More.mono _ _ _
      | exact phaetonref02_Word.mono _ _
      | exact LeO.none _
      | refine LeO.ite ?_ ?_
      | refine LeO.bind ?_ (fun _ => ?_)
theorem phaetonlaw02_CrcTells.mono : ∀ a0 a1 a2 k, LeO (phaetonlaw02_CrcTells.f k a0 a1 a2) (phaetonlaw02_CrcTells.f (k + 1) a0 a1 a2) := by
  intro a0 a1 a2 k
  have ih0 := phaetonlaw02_CrcTells.mono_l k
  unfold phaetonlaw02_CrcTells.f
  repeat' first
      | (with_reducible exact ih0 _ _ _ _ _)
      | (with_reducible exact phaetonlaw02_head.mono _)
      | (with_reducible exact phaetonref01_Right.mono _ _)
      | (with_reducible exact phaetonref02_Bits.mono _ _)
      | (with_reducible exact phaetonref02_Byte.mono _ _)
      | (with_reducible exact phaetonref02_More.mono _ _ _)
      | (with_reducible exact phaetonref02_Word.mono _ _)
      | (with_reducible exact LeO.refl _)
      | (with_reducible exact LeO.none _)
      | (with_reducible refine LeO.ite ?_ ?_)
      | (with_reducible refine LeO.bind ?_ (fun _ => ?_))
      | exact ih0 _ _ _ _ _
      | exact phaetonlaw02_head.mono _
      | exact phaetonref01_Right.mono _ _
      | exact phaetonref02_Bits.mono _ _
      | exact phaetonref02_Byte.mono _ _
      | exact phaetonref02_More.mono _ _ _
      | exact phaetonref02_Word.mono _ _
      | exact LeO.none _
      | refine LeO.ite ?_ ?_
      | refine LeO.bind ?_ (fun _ => ?_)
set_option maxHeartbeats 8000000 in
set_option maxRecDepth 100000 in
theorem phaetonlaw02_CrcTells.calls (k : Nat) (A0 : Option Addr) (c0 : Nat) (l0 : List Int) (A1 : Option Addr) (c1 : Nat) (l1 : List Int) (a2 : Int) (r : Bool) (w : World) (hr0 : Kd.C (Kd.int .i64) w A0 l0.length l0) (hc0 : l0.length ≤ c0) (hr1 : Kd.C (Kd.int .u8) w A1 l1.length l1) (hc1 : l1.length ≤ c1) (h : phaetonlaw02_CrcTells.f k l0 l1 a2 = some r) :
    Calls Try.prog 3 #[.slice A0 l0.length c0, .slice A1 l1.length c1, .int .i64 a2] w fun e w' => e = .returned (.bool r) ∧ Below w.heap.size w w' := by
  have HR0 := Aside0.mk hr0
  have HC0 := Aside0.mk hc0
  clear hr0 hc0
  have HR1 := Aside0.mk hr1
  have HC1 := Aside0.mk hc1
  clear hr1 hc1
  have HB := Aside0.mk (Below.refl w.heap.size w)
  have H : ((phaetonlaw02_head.f k).bind fun t140 => (if (l0.length : Int) > 2000 then (phaetonlaw02_CrcTells.j0 k l0 l1 a2 t140 true) else (phaetonlaw02_CrcTells.j0 k l0 l1 a2 t140 (decide ((l1.length : Int) > 1000))))) = some r := h
  clear h
  replace H := Option.bind_eq_some_iff.mp H
  obtain ⟨t140, A40, H⟩ := H
  replace H : (if (l0.length : Int) > 2000 then (phaetonlaw02_CrcTells.j0 k l0 l1 a2 t140 true) else (phaetonlaw02_CrcTells.j0 k l0 l1 a2 t140 (decide ((l1.length : Int) > 1000)))) = some r := H
  have A4 := Aside0.mk A40
  clear A40
  have HC5 := Aside0.mk H
  clear H
  go_enter Try.func3, Try.ntmps3
  go_upto_region 2 with (first | ((with_reducible refine gate_callee (f := 10) rfl ?_); refine goesL_ (some 8) rfl rfl Try.func10 (by kernel_rfl) rfl #[] rfl (by (try simp only [List.map_toArray, List.map_cons, List.map_nil]); first | done | rfl | (simp only [List.length_drop, List.length_take]; rfl)) ?_; (with_reducible refine (phaetonlaw02_head.calls k  t140 _ A4.out).mono ?_); rintro e w6 ⟨rfl, hb⟩; refine ⟨_, rfl, ?_⟩; have n0_ := Aside0.mk (below_step (by repeat (first | (with_reducible first | exact HB.out | apply below_alloc | apply pw_below_drewN | apply below_drew1) | exact HB.out)) hb); clear HB; have HB := n0_; clear n0_; (try clear hb); (try clear hb2); (try clear hk); (try clear hi)))
  (try simp only [Act.put, List.setIfInBounds_toArray, List.set_cons_zero, List.set_cons_succ])
  go_cut [16] (fun v16 wc => ∃ (kq : Nat) (x16_4 : Bool), v16 = .bool x16_4 ∧ Aside0 (phaetonlaw02_CrcTells.j0 kq l0 l1 a2 t140 x16_4 = some r) ∧ Aside0 (kq ≤ k) ∧ Aside0 (Below w.heap.size w wc))
  case first =>
    have H := HC5.out
    clear HC5
    by_cases c7 : (l0.length : Int) > 2000
    · rw [if_pos c7] at H
      have c7b0 : decide (2000 < (l0.length : Int)) = true := decide_eq_true c7
      have c7b1 : decide (2000 < l0.length) = true := decide_eq_true (by omega)
      clear c7
      (first | rw [c7b0] | (simp only [i64_w, i32_w]; rw [c7b0]) | skip)
      have H' := Aside0.mk H
      clear H
      go_wp2
      go_meet
      case rel => exact ⟨_, (true), (by first | rfl | (simp; done) | (simp [*]; done)), H', ⟨by first | omega | exact Nat.le_refl _⟩, ⟨by repeat (first | (with_reducible first | exact HB.out | apply below_alloc | apply pw_below_drewN | apply below_drew1) | exact HB.out)⟩⟩
    · rw [if_neg c7] at H
      have c7b0 : decide (2000 < (l0.length : Int)) = false := decide_eq_false c7
      have c7b1 : decide (2000 < l0.length) = false := decide_eq_false (by omega)
      clear c7
      (first | rw [c7b0] | (simp only [i64_w, i32_w]; rw [c7b0]) | skip)
      have H' := Aside0.mk H
      clear H
      go_wp2
      go_meet
      case rel => exact ⟨_, (decide ((l1.length : Int) > 1000)), (by first | rfl | (simp; done) | (simp [*]; done)), H', ⟨by first | omega | exact Nat.le_refl _⟩, ⟨by repeat (first | (with_reducible first | exact HB.out | apply below_alloc | apply pw_below_drewN | apply below_drew1) | exact HB.out)⟩⟩
  case rest =>
    clear HC5
    try clear c1
    try clear p2
    try clear c3
    try clear c7
    try clear c7b0
    try clear c7b1
    obtain ⟨kq, x16_4, rfl, HA, HJ4, HB⟩ := hcut
    cases kq with
    | zero => exact absurd HA.out (by simp [phaetonlaw02_CrcTells.j0])
    | succ kj4 =>
      have H := HA.out
      clear HA
      simp only [phaetonlaw02_CrcTells.j0] at H
      by_cases c8 : x16_4 = true
      · subst c8
        have H1 : (if t140 = true then (some true) else (none)) = some r := by rw [if_pos rfl] at H; exact H
        clear H
        have H := H1
        clear H1
        by_cases c9 : t140 = true
        · subst c9
          have H1 : (some true) = some r := by rw [if_pos rfl] at H; exact H
          clear H
          have H := H1
          clear H1
          obtain rfl := Option.some.inj H
          go_wp2
          go_ret
          exact ⟨by first | rfl | (simp [errW_none, errW_some] <;> rfl) | (simp [*, errW_none, errW_some] <;> rfl), by repeat (first | (with_reducible first | exact HB.out | apply below_alloc | apply pw_below_drewN | apply below_drew1) | exact HB.out)⟩
        · replace c9 := Bool.eq_false_iff.mpr c9
          subst c9
          have H1 : (none) = some r := by rw [if_neg (show ¬ (false = true) by decide)] at H; exact H
          clear H
          have H := H1
          clear H1
          exact absurd H (by simp)
      · replace c8 := Bool.eq_false_iff.mpr c8
        subst c8
        have H1 : (if t140 = true then ((phaetonref01_Right.f kj4 l0).bind fun t141 => (if t141 = true then ((crc_Bits.f l0).bind fun t142 => ((phaetonref02_Bits.f kj4 l0).bind fun t143 => (if t142 = t143 then ((crc_Byte.f l1).bind fun t144 => ((phaetonref02_Byte.f kj4 l1).bind fun t145 => (if t144 = t145 then ((crc_Word.f l1).bind fun t146 => ((phaetonref02_Word.f kj4 l1).bind fun t147 => (if t146 = t147 then ((crc_More.f a2 l1).bind fun t148 => ((phaetonref02_More.f kj4 a2 l1).bind fun t149 => (if t148 = t149 then (some true) else (none)))) else (none)))) else (none)))) else (none)))) else ((crc_Byte.f l1).bind fun t150 => ((phaetonref02_Byte.f kj4 l1).bind fun t151 => (if t150 = t151 then ((crc_Word.f l1).bind fun t152 => ((phaetonref02_Word.f kj4 l1).bind fun t153 => (if t152 = t153 then ((crc_More.f a2 l1).bind fun t154 => ((phaetonref02_More.f kj4 a2 l1).bind fun t155 => (if t154 = t155 then (some true) else (none)))) else (none)))) else (none)))))) else (none)) = some r := by rw [if_neg (show ¬ (false = true) by decide)] at H; exact H
        clear H
        have H := H1
        clear H1
        by_cases c10 : t140 = true
        · subst c10
          have H1 : ((phaetonref01_Right.f kj4 l0).bind fun t141 => (if t141 = true then ((crc_Bits.f l0).bind fun t142 => ((phaetonref02_Bits.f kj4 l0).bind fun t143 => (if t142 = t143 then ((crc_Byte.f l1).bind fun t144 => ((phaetonref02_Byte.f kj4 l1).bind fun t145 => (if t144 = t145 then ((crc_Word.f l1).bind fun t146 => ((phaetonref02_Word.f kj4 l1).bind fun t147 => (if t146 = t147 then ((crc_More.f a2 l1).bind fun t148 => ((phaetonref02_More.f kj4 a2 l1).bind fun t149 => (if t148 = t149 then (some true) else (none)))) else (none)))) else (none)))) else (none)))) else ((crc_Byte.f l1).bind fun t150 => ((phaetonref02_Byte.f kj4 l1).bind fun t151 => (if t150 = t151 then ((crc_Word.f l1).bind fun t152 => ((phaetonref02_Word.f kj4 l1).bind fun t153 => (if t152 = t153 then ((crc_More.f a2 l1).bind fun t154 => ((phaetonref02_More.f kj4 a2 l1).bind fun t155 => (if t154 = t155 then (some true) else (none)))) else (none)))) else (none)))))) = some r := by rw [if_pos rfl] at H; exact H
          clear H
          have H := H1
          clear H1
          replace H := Option.bind_eq_some_iff.mp H
          obtain ⟨t141, A110, H⟩ := H
          replace H : (if t141 = true then ((crc_Bits.f l0).bind fun t142 => ((phaetonref02_Bits.f kj4 l0).bind fun t143 => (if t142 = t143 then ((crc_Byte.f l1).bind fun t144 => ((phaetonref02_Byte.f kj4 l1).bind fun t145 => (if t144 = t145 then ((crc_Word.f l1).bind fun t146 => ((phaetonref02_Word.f kj4 l1).bind fun t147 => (if t146 = t147 then ((crc_More.f a2 l1).bind fun t148 => ((phaetonref02_More.f kj4 a2 l1).bind fun t149 => (if t148 = t149 then (some true) else (none)))) else (none)))) else (none)))) else (none)))) else ((crc_Byte.f l1).bind fun t150 => ((phaetonref02_Byte.f kj4 l1).bind fun t151 => (if t150 = t151 then ((crc_Word.f l1).bind fun t152 => ((phaetonref02_Word.f kj4 l1).bind fun t153 => (if t152 = t153 then ((crc_More.f a2 l1).bind fun t154 => ((phaetonref02_More.f kj4 a2 l1).bind fun t155 => (if t154 = t155 then (some true) else (none)))) else (none)))) else (none))))) = some r := H
          have A11 := Aside0.mk A110
          clear A110
          by_cases c12 : t141 = true
          · subst c12
            have H1 : ((crc_Bits.f l0).bind fun t142 => ((phaetonref02_Bits.f kj4 l0).bind fun t143 => (if t142 = t143 then ((crc_Byte.f l1).bind fun t144 => ((phaetonref02_Byte.f kj4 l1).bind fun t145 => (if t144 = t145 then ((crc_Word.f l1).bind fun t146 => ((phaetonref02_Word.f kj4 l1).bind fun t147 => (if t146 = t147 then ((crc_More.f a2 l1).bind fun t148 => ((phaetonref02_More.f kj4 a2 l1).bind fun t149 => (if t148 = t149 then (some true) else (none)))) else (none)))) else (none)))) else (none)))) = some r := by rw [if_pos rfl] at H; exact H
            clear H
            have H := H1
            clear H1
            replace H := Option.bind_eq_some_iff.mp H
            obtain ⟨t142, A130, H⟩ := H
            replace H : ((phaetonref02_Bits.f kj4 l0).bind fun t143 => (if t142 = t143 then ((crc_Byte.f l1).bind fun t144 => ((phaetonref02_Byte.f kj4 l1).bind fun t145 => (if t144 = t145 then ((crc_Word.f l1).bind fun t146 => ((phaetonref02_Word.f kj4 l1).bind fun t147 => (if t146 = t147 then ((crc_More.f a2 l1).bind fun t148 => ((phaetonref02_More.f kj4 a2 l1).bind fun t149 => (if t148 = t149 then (some true) else (none)))) else (none)))) else (none)))) else (none))) = some r := H
            have A13 := Aside0.mk A130
            clear A130
            replace H := Option.bind_eq_some_iff.mp H
            obtain ⟨t143, A140, H⟩ := H
            replace H : (if t142 = t143 then ((crc_Byte.f l1).bind fun t144 => ((phaetonref02_Byte.f kj4 l1).bind fun t145 => (if t144 = t145 then ((crc_Word.f l1).bind fun t146 => ((phaetonref02_Word.f kj4 l1).bind fun t147 => (if t146 = t147 then ((crc_More.f a2 l1).bind fun t148 => ((phaetonref02_More.f kj4 a2 l1).bind fun t149 => (if t148 = t149 then (some true) else (none)))) else (none)))) else (none)))) else (none)) = some r := H
            have A14 := Aside0.mk A140
            clear A140
            by_cases c15 : t142 = t143
            · rw [if_pos c15] at H
              have c15b0 : (t142 == t143) = true := beq_iff_eq.mpr c15
              have c15b1 : (t142 != t143) = false := bne_eq_false_iff_eq.mpr c15
              clear c15
              replace H := Option.bind_eq_some_iff.mp H
              obtain ⟨t144, A160, H⟩ := H
              replace H : ((phaetonref02_Byte.f kj4 l1).bind fun t145 => (if t144 = t145 then ((crc_Word.f l1).bind fun t146 => ((phaetonref02_Word.f kj4 l1).bind fun t147 => (if t146 = t147 then ((crc_More.f a2 l1).bind fun t148 => ((phaetonref02_More.f kj4 a2 l1).bind fun t149 => (if t148 = t149 then (some true) else (none)))) else (none)))) else (none))) = some r := H
              have A16 := Aside0.mk A160
              clear A160
              replace H := Option.bind_eq_some_iff.mp H
              obtain ⟨t145, A170, H⟩ := H
              replace H : (if t144 = t145 then ((crc_Word.f l1).bind fun t146 => ((phaetonref02_Word.f kj4 l1).bind fun t147 => (if t146 = t147 then ((crc_More.f a2 l1).bind fun t148 => ((phaetonref02_More.f kj4 a2 l1).bind fun t149 => (if t148 = t149 then (some true) else (none)))) else (none)))) else (none)) = some r := H
              have A17 := Aside0.mk A170
              clear A170
              by_cases c18 : t144 = t145
              · rw [if_pos c18] at H
                have c18b0 : (t144 == t145) = true := beq_iff_eq.mpr c18
                have c18b1 : (t144 != t145) = false := bne_eq_false_iff_eq.mpr c18
                clear c18
                replace H := Option.bind_eq_some_iff.mp H
                obtain ⟨t146, A190, H⟩ := H
                replace H : ((phaetonref02_Word.f kj4 l1).bind fun t147 => (if t146 = t147 then ((crc_More.f a2 l1).bind fun t148 => ((phaetonref02_More.f kj4 a2 l1).bind fun t149 => (if t148 = t149 then (some true) else (none)))) else (none))) = some r := H
                have A19 := Aside0.mk A190
                clear A190
                replace H := Option.bind_eq_some_iff.mp H
                obtain ⟨t147, A200, H⟩ := H
                replace H : (if t146 = t147 then ((crc_More.f a2 l1).bind fun t148 => ((phaetonref02_More.f kj4 a2 l1).bind fun t149 => (if t148 = t149 then (some true) else (none)))) else (none)) = some r := H
                have A20 := Aside0.mk A200
                clear A200
                by_cases c21 : t146 = t147
                · rw [if_pos c21] at H
                  have c21b0 : (t146 == t147) = true := beq_iff_eq.mpr c21
                  have c21b1 : (t146 != t147) = false := bne_eq_false_iff_eq.mpr c21
                  clear c21
                  replace H := Option.bind_eq_some_iff.mp H
                  obtain ⟨t148, A220, H⟩ := H
                  replace H : ((phaetonref02_More.f kj4 a2 l1).bind fun t149 => (if t148 = t149 then (some true) else (none))) = some r := H
                  have A22 := Aside0.mk A220
                  clear A220
                  replace H := Option.bind_eq_some_iff.mp H
                  obtain ⟨t149, A230, H⟩ := H
                  replace H : (if t148 = t149 then (some true) else (none)) = some r := H
                  have A23 := Aside0.mk A230
                  clear A230
                  by_cases c24 : t148 = t149
                  · rw [if_pos c24] at H
                    have c24b0 : (t148 == t149) = true := beq_iff_eq.mpr c24
                    have c24b1 : (t148 != t149) = false := bne_eq_false_iff_eq.mpr c24
                    clear c24
                    obtain rfl := Option.some.inj H
                    go_wp2_with (first | (go_at_call 11; (with_reducible refine (phaetonref01_Right.calls kj4 _ _ l0 true _ ?side1 ?side2 A11.out).mono ?_); (case side1 => repeat (first | exact (Kd.C_below HR0.out HB.out) | (with_reducible refine Kd.C_alloc ?_ _) | (with_reducible refine Kd.C_drewN ?_ _) | (with_reducible refine Kd.C_drew ?_))); (case side2 => exact HC0.out); rintro e w' ⟨rfl, ⟨nd, rfl⟩⟩) | (go_at_call 12; (with_reducible refine (crc_Bits.calls _ _ l0 t142 _ ?side1 ?side2 A13.out).mono ?_); (case side1 => repeat (first | exact (Kd.C_below HR0.out (by repeat (first | (with_reducible first | exact HB.out | apply below_alloc | apply pw_below_drewN | apply below_drew1) | exact HB.out))) | (with_reducible refine Kd.C_alloc ?_ _) | (with_reducible refine Kd.C_drewN ?_ _) | (with_reducible refine Kd.C_drew ?_))); (case side2 => exact HC0.out); rintro e w25 ⟨rfl, hb⟩; have n0_ := Aside0.mk (below_step (by repeat (first | (with_reducible first | exact HB.out | apply below_alloc | apply pw_below_drewN | apply below_drew1) | exact HB.out)) hb); clear HB; have HB := n0_; clear n0_; (try clear hb); (try clear hb2); (try clear hk); (try clear hi)) | (go_at_call 13; (with_reducible refine (phaetonref02_Bits.calls kj4 _ _ l0 t143 _ ?side1 ?side2 A14.out).mono ?_); (case side1 => repeat (first | exact (Kd.C_below HR0.out HB.out) | (with_reducible refine Kd.C_alloc ?_ _) | (with_reducible refine Kd.C_drewN ?_ _) | (with_reducible refine Kd.C_drew ?_))); (case side2 => exact HC0.out); rintro e w' ⟨rfl, ⟨nd, rfl⟩⟩) | (go_at_call 14; (with_reducible refine (crc_Byte.calls _ _ l1 t144 _ ?side1 ?side2 A16.out).mono ?_); (case side1 => repeat (first | exact (Kd.C_below HR1.out (by repeat (first | (with_reducible first | exact HB.out | apply below_alloc | apply pw_below_drewN | apply below_drew1) | exact HB.out))) | (with_reducible refine Kd.C_alloc ?_ _) | (with_reducible refine Kd.C_drewN ?_ _) | (with_reducible refine Kd.C_drew ?_))); (case side2 => exact HC1.out); rintro e w26 ⟨rfl, hb⟩; have n0_ := Aside0.mk (below_step (by repeat (first | (with_reducible first | exact HB.out | apply below_alloc | apply pw_below_drewN | apply below_drew1) | exact HB.out)) hb); clear HB; have HB := n0_; clear n0_; (try clear hb); (try clear hb2); (try clear hk); (try clear hi)) | (go_at_call 15; (with_reducible refine (phaetonref02_Byte.calls kj4 _ _ l1 t145 _ ?side1 ?side2 A17.out).mono ?_); (case side1 => repeat (first | exact (Kd.C_below HR1.out HB.out) | (with_reducible refine Kd.C_alloc ?_ _) | (with_reducible refine Kd.C_drewN ?_ _) | (with_reducible refine Kd.C_drew ?_))); (case side2 => exact HC1.out); rintro e w' ⟨rfl, ⟨nd, rfl⟩⟩) | (go_at_call 16; (with_reducible refine (crc_Word.calls _ _ l1 t146 _ ?side1 ?side2 A19.out).mono ?_); (case side1 => repeat (first | exact (Kd.C_below HR1.out (by repeat (first | (with_reducible first | exact HB.out | apply below_alloc | apply pw_below_drewN | apply below_drew1) | exact HB.out))) | (with_reducible refine Kd.C_alloc ?_ _) | (with_reducible refine Kd.C_drewN ?_ _) | (with_reducible refine Kd.C_drew ?_))); (case side2 => exact HC1.out); rintro e w27 ⟨rfl, hb⟩; have n0_ := Aside0.mk (below_step (by repeat (first | (with_reducible first | exact HB.out | apply below_alloc | apply pw_below_drewN | apply below_drew1) | exact HB.out)) hb); clear HB; have HB := n0_; clear n0_; (try clear hb); (try clear hb2); (try clear hk); (try clear hi)) | (go_at_call 17; (with_reducible refine (phaetonref02_Word.calls kj4 _ _ l1 t147 _ ?side1 ?side2 A20.out).mono ?_); (case side1 => repeat (first | exact (Kd.C_below HR1.out HB.out) | (with_reducible refine Kd.C_alloc ?_ _) | (with_reducible refine Kd.C_drewN ?_ _) | (with_reducible refine Kd.C_drew ?_))); (case side2 => exact HC1.out); rintro e w' ⟨rfl, ⟨nd, rfl⟩⟩) | (go_at_call 18; (with_reducible refine (crc_More.calls a2 _ _ l1 t148 _ ?side1 ?side2 A22.out).mono ?_); (case side1 => repeat (first | exact (Kd.C_below HR1.out (by repeat (first | (with_reducible first | exact HB.out | apply below_alloc | apply pw_below_drewN | apply below_drew1) | exact HB.out))) | (with_reducible refine Kd.C_alloc ?_ _) | (with_reducible refine Kd.C_drewN ?_ _) | (with_reducible refine Kd.C_drew ?_))); (case side2 => exact HC1.out); rintro e w28 ⟨rfl, hb⟩; have n0_ := Aside0.mk (below_step (by repeat (first | (with_reducible first | exact HB.out | apply below_alloc | apply pw_below_drewN | apply below_drew1) | exact HB.out)) hb); clear HB; have HB := n0_; clear n0_; (try clear hb); (try clear hb2); (try clear hk); (try clear hi)) | (go_at_call 19; (with_reducible refine (phaetonref02_More.calls kj4 a2 _ _ l1 t149 _ ?side1 ?side2 A23.out).mono ?_); (case side1 => repeat (first | exact (Kd.C_below HR1.out HB.out) | (with_reducible refine Kd.C_alloc ?_ _) | (with_reducible refine Kd.C_drewN ?_ _) | (with_reducible refine Kd.C_drew ?_))); (case side2 => exact HC1.out); rintro e w' ⟨rfl, ⟨nd, rfl⟩⟩))
                    go_ret
                    exact ⟨by first | rfl | (simp [errW_none, errW_some] <;> rfl) | (simp [*, errW_none, errW_some] <;> rfl), by repeat (first | (with_reducible first | exact HB.out | apply below_alloc | apply pw_below_drewN | apply below_drew1) | exact HB.out)⟩
                  · rw [if_neg c24] at H
                    exact absurd H (by simp)
                · rw [if_neg c21] at H
                  exact absurd H (by simp)
              · rw [if_neg c18] at H
                exact absurd H (by simp)
            · rw [if_neg c15] at H
              exact absurd H (by simp)
          · replace c12 := Bool.eq_false_iff.mpr c12
            subst c12
            have H1 : ((crc_Byte.f l1).bind fun t150 => ((phaetonref02_Byte.f kj4 l1).bind fun t151 => (if t150 = t151 then ((crc_Word.f l1).bind fun t152 => ((phaetonref02_Word.f kj4 l1).bind fun t153 => (if t152 = t153 then ((crc_More.f a2 l1).bind fun t154 => ((phaetonref02_More.f kj4 a2 l1).bind fun t155 => (if t154 = t155 then (some true) else (none)))) else (none)))) else (none)))) = some r := by rw [if_neg (show ¬ (false = true) by decide)] at H; exact H
            clear H
            have H := H1
            clear H1
            replace H := Option.bind_eq_some_iff.mp H
            obtain ⟨t150, A290, H⟩ := H
            replace H : ((phaetonref02_Byte.f kj4 l1).bind fun t151 => (if t150 = t151 then ((crc_Word.f l1).bind fun t152 => ((phaetonref02_Word.f kj4 l1).bind fun t153 => (if t152 = t153 then ((crc_More.f a2 l1).bind fun t154 => ((phaetonref02_More.f kj4 a2 l1).bind fun t155 => (if t154 = t155 then (some true) else (none)))) else (none)))) else (none))) = some r := H
            have A29 := Aside0.mk A290
            clear A290
            replace H := Option.bind_eq_some_iff.mp H
            obtain ⟨t151, A300, H⟩ := H
            replace H : (if t150 = t151 then ((crc_Word.f l1).bind fun t152 => ((phaetonref02_Word.f kj4 l1).bind fun t153 => (if t152 = t153 then ((crc_More.f a2 l1).bind fun t154 => ((phaetonref02_More.f kj4 a2 l1).bind fun t155 => (if t154 = t155 then (some true) else (none)))) else (none)))) else (none)) = some r := H
            have A30 := Aside0.mk A300
            clear A300
            by_cases c31 : t150 = t151
            · rw [if_pos c31] at H
              have c31b0 : (t150 == t151) = true := beq_iff_eq.mpr c31
              have c31b1 : (t150 != t151) = false := bne_eq_false_iff_eq.mpr c31
              clear c31
              replace H := Option.bind_eq_some_iff.mp H
              obtain ⟨t152, A320, H⟩ := H
              replace H : ((phaetonref02_Word.f kj4 l1).bind fun t153 => (if t152 = t153 then ((crc_More.f a2 l1).bind fun t154 => ((phaetonref02_More.f kj4 a2 l1).bind fun t155 => (if t154 = t155 then (some true) else (none)))) else (none))) = some r := H
              have A32 := Aside0.mk A320
              clear A320
              replace H := Option.bind_eq_some_iff.mp H
              obtain ⟨t153, A330, H⟩ := H
              replace H : (if t152 = t153 then ((crc_More.f a2 l1).bind fun t154 => ((phaetonref02_More.f kj4 a2 l1).bind fun t155 => (if t154 = t155 then (some true) else (none)))) else (none)) = some r := H
              have A33 := Aside0.mk A330
              clear A330
              by_cases c34 : t152 = t153
              · rw [if_pos c34] at H
                have c34b0 : (t152 == t153) = true := beq_iff_eq.mpr c34
                have c34b1 : (t152 != t153) = false := bne_eq_false_iff_eq.mpr c34
                clear c34
                replace H := Option.bind_eq_some_iff.mp H
                obtain ⟨t154, A350, H⟩ := H
                replace H : ((phaetonref02_More.f kj4 a2 l1).bind fun t155 => (if t154 = t155 then (some true) else (none))) = some r := H
                have A35 := Aside0.mk A350
                clear A350
                replace H := Option.bind_eq_some_iff.mp H
                obtain ⟨t155, A360, H⟩ := H
                replace H : (if t154 = t155 then (some true) else (none)) = some r := H
                have A36 := Aside0.mk A360
                clear A360
                by_cases c37 : t154 = t155
                · rw [if_pos c37] at H
                  have c37b0 : (t154 == t155) = true := beq_iff_eq.mpr c37
                  have c37b1 : (t154 != t155) = false := bne_eq_false_iff_eq.mpr c37
                  clear c37
                  obtain rfl := Option.some.inj H
                  go_wp2_with (first | (go_at_call 11; (with_reducible refine (phaetonref01_Right.calls kj4 _ _ l0 false _ ?side1 ?side2 A11.out).mono ?_); (case side1 => repeat (first | exact (Kd.C_below HR0.out HB.out) | (with_reducible refine Kd.C_alloc ?_ _) | (with_reducible refine Kd.C_drewN ?_ _) | (with_reducible refine Kd.C_drew ?_))); (case side2 => exact HC0.out); rintro e w' ⟨rfl, ⟨nd, rfl⟩⟩) | (go_at_call 14; (with_reducible refine (crc_Byte.calls _ _ l1 t150 _ ?side1 ?side2 A29.out).mono ?_); (case side1 => repeat (first | exact (Kd.C_below HR1.out (by repeat (first | (with_reducible first | exact HB.out | apply below_alloc | apply pw_below_drewN | apply below_drew1) | exact HB.out))) | (with_reducible refine Kd.C_alloc ?_ _) | (with_reducible refine Kd.C_drewN ?_ _) | (with_reducible refine Kd.C_drew ?_))); (case side2 => exact HC1.out); rintro e w38 ⟨rfl, hb⟩; have n0_ := Aside0.mk (below_step (by repeat (first | (with_reducible first | exact HB.out | apply below_alloc | apply pw_below_drewN | apply below_drew1) | exact HB.out)) hb); clear HB; have HB := n0_; clear n0_; (try clear hb); (try clear hb2); (try clear hk); (try clear hi)) | (go_at_call 15; (with_reducible refine (phaetonref02_Byte.calls kj4 _ _ l1 t151 _ ?side1 ?side2 A30.out).mono ?_); (case side1 => repeat (first | exact (Kd.C_below HR1.out HB.out) | (with_reducible refine Kd.C_alloc ?_ _) | (with_reducible refine Kd.C_drewN ?_ _) | (with_reducible refine Kd.C_drew ?_))); (case side2 => exact HC1.out); rintro e w' ⟨rfl, ⟨nd, rfl⟩⟩) | (go_at_call 16; (with_reducible refine (crc_Word.calls _ _ l1 t152 _ ?side1 ?side2 A32.out).mono ?_); (case side1 => repeat (first | exact (Kd.C_below HR1.out (by repeat (first | (with_reducible first | exact HB.out | apply below_alloc | apply pw_below_drewN | apply below_drew1) | exact HB.out))) | (with_reducible refine Kd.C_alloc ?_ _) | (with_reducible refine Kd.C_drewN ?_ _) | (with_reducible refine Kd.C_drew ?_))); (case side2 => exact HC1.out); rintro e w39 ⟨rfl, hb⟩; have n0_ := Aside0.mk (below_step (by repeat (first | (with_reducible first | exact HB.out | apply below_alloc | apply pw_below_drewN | apply below_drew1) | exact HB.out)) hb); clear HB; have HB := n0_; clear n0_; (try clear hb); (try clear hb2); (try clear hk); (try clear hi)) | (go_at_call 17; (with_reducible refine (phaetonref02_Word.calls kj4 _ _ l1 t153 _ ?side1 ?side2 A33.out).mono ?_); (case side1 => repeat (first | exact (Kd.C_below HR1.out HB.out) | (with_reducible refine Kd.C_alloc ?_ _) | (with_reducible refine Kd.C_drewN ?_ _) | (with_reducible refine Kd.C_drew ?_))); (case side2 => exact HC1.out); rintro e w' ⟨rfl, ⟨nd, rfl⟩⟩) | (go_at_call 18; (with_reducible refine (crc_More.calls a2 _ _ l1 t154 _ ?side1 ?side2 A35.out).mono ?_); (case side1 => repeat (first | exact (Kd.C_below HR1.out (by repeat (first | (with_reducible first | exact HB.out | apply below_alloc | apply pw_below_drewN | apply below_drew1) | exact HB.out))) | (with_reducible refine Kd.C_alloc ?_ _) | (with_reducible refine Kd.C_drewN ?_ _) | (with_reducible refine Kd.C_drew ?_))); (case side2 => exact HC1.out); rintro e w40 ⟨rfl, hb⟩; have n0_ := Aside0.mk (below_step (by repeat (first | (with_reducible first | exact HB.out | apply below_alloc | apply pw_below_drewN | apply below_drew1) | exact HB.out)) hb); clear HB; have HB := n0_; clear n0_; (try clear hb); (try clear hb2); (try clear hk); (try clear hi)) | (go_at_call 19; (with_reducible refine (phaetonref02_More.calls kj4 a2 _ _ l1 t155 _ ?side1 ?side2 A36.out).mono ?_); (case side1 => repeat (first | exact (Kd.C_below HR1.out HB.out) | (with_reducible refine Kd.C_alloc ?_ _) | (with_reducible refine Kd.C_drewN ?_ _) | (with_reducible refine Kd.C_drew ?_))); (case side2 => exact HC1.out); rintro e w' ⟨rfl, ⟨nd, rfl⟩⟩))
                  go_ret
                  exact ⟨by first | rfl | (simp [errW_none, errW_some] <;> rfl) | (simp [*, errW_none, errW_some] <;> rfl), by repeat (first | (with_reducible first | exact HB.out | apply below_alloc | apply pw_below_drewN | apply below_drew1) | exact HB.out)⟩
                · rw [if_neg c37] at H
                  exact absurd H (by simp)
              · rw [if_neg c34] at H
                exact absurd H (by simp)
            · rw [if_neg c31] at H
              exact absurd H (by simp)
        · replace c10 := Bool.eq_false_iff.mpr c10
          subst c10
          have H1 : (none) = some r := by rw [if_neg (show ¬ (false = true) by decide)] at H; exact H
          clear H
          have H := H1
          clear H1
          exact absurd H (by simp)

/-- THE ONE PURE STATEMENT of phaetonlaw02_CrcTells: yours. -/
def phaetonlaw02_CrcTells.Pure : Prop := ∀ (l0 : List Int) (l1 : List Int) (a2 : Int), l0.length ≤ maxLen → l0.length * 8 ≤ 140737488351232 → (∀ x ∈ l0, (Lit.int .i64 x).wf = true) → l1.length ≤ maxLen → l1.length * 1 ≤ 140737488351232 → (∀ x ∈ l1, (Lit.int .u8 x).wf = true) → (Lit.int .i64 a2).wf = true → ∃ k, phaetonlaw02_CrcTells.f k l0 l1 a2 = some true
theorem phaetonlaw02_CrcTells.walk (P : phaetonlaw02_CrcTells.Pure) (a0 : Option Addr) (len0 cap0 : Nat) (z0 : List Int) (a1 : Option Addr) (len1 cap1 : Nat) (z1 : List Int) (a2 : Int) (w : World) (w0 : (a0 = none ∧ len0 = 0 ∧ cap0 = 0 ∧ z0 = []) ∨ ∃ x, a0 = some x ∧ len0 ≤ cap0 ∧ cap0 ≤ maxLen ∧ z0.length = cap0 ∧ (∀ i, i < z0.length → w.cell? (x.add i) = some (.int .i64 (z0.getD i 0))) ∧ ∀ n ∈ z0, (Lit.int .i64 n).wf = true) (y0 : len0 * 8 ≤ 140737488351232) (w1 : (a1 = none ∧ len1 = 0 ∧ cap1 = 0 ∧ z1 = []) ∨ ∃ x, a1 = some x ∧ len1 ≤ cap1 ∧ cap1 ≤ maxLen ∧ z1.length = cap1 ∧ (∀ i, i < z1.length → w.cell? (x.add i) = some (.int .u8 (z1.getD i 0))) ∧ ∀ n ∈ z1, (Lit.int .u8 n).wf = true) (y1 : len1 * 1 ≤ 140737488351232) (w2 : (Lit.int .i64 a2).wf = true) :
    Calls Try.prog 3 #[.slice a0 len0 cap0, .slice a1 len1 cap1, .int .i64 a2] w fun e w' => e = .returned (.bool true) ∧ Below w.heap.size w w' := by
  obtain ⟨l0, rfl, hr0, hm0, hw0, hc0⟩ := ReadsInt.ofRowC w0
  obtain ⟨l1, rfl, hr1, hm1, hw1, hc1⟩ := ReadsInt.ofRowC w1
  obtain ⟨k, h⟩ := P l0 l1 a2 hm0 y0 hw0 hm1 y1 hw1 w2
  refine (phaetonlaw02_CrcTells.calls k _ _ l0 _ _ l1 a2 true w (Kd.C_of_reads (d := (0 : Int)) (h1 := fun _ => rfl) hr0) hc0 (Kd.C_of_reads (d := (0 : Int)) (h1 := fun _ => rfl) hr1) hc1 h).mono ?_
  rintro e w' ⟨rfl, hd⟩
  exact ⟨rfl, hd⟩

end Go.Proofs.Ytonffeckadmlcaa.Px

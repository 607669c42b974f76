-- Written by myprint.py, a program of this session's, over the kit's print.py; not a text of print.sh's own.
import Derived.Test.YtcdbndjicjghgaaPx0
import Derived.Test.YtcdbndjicjghgaaPx1
import Derived.Test.YtcdbndjicjghgaaPx2
import Derived.Test.YtcdbndjicjghgaaPx3
import Derived.Test.YtcdbndjicjghgaaPx6
import Derived.Test.YtcdbndjicjghgaaPx7
namespace Go.Proofs.Ytcdbndjicjghgaa.Px
open Go.RowKit Go.Proofs.YtcdbndjicjghgaaW.PrintWords Go.Proofs.YtcdbndjicjghgaaW.PrintLast Go.Proofs.YtcdbndjicjghgaaW.PrintMore
attribute [local go_sem] max2_int min2_int max_two min_two max_three min_three max_four min_four   -- for this text's walks alone
set_option linter.unusedVariables false
set_option linter.unusedSimpArgs false

/-! ### phaetonref06_And: function 22 -/
def phaetonref06_And.l0 : Nat → List Int → Int → Option (Int)
  | 0, _, _ => none
  | k + 1, x0, x3 => if x3 < (x0.length : Int) then (if 0 ≤ x3 then (if (rd x0 x3) = 0 then (some 0) else (phaetonref06_And.l0 k x0 (wrap64 (x3 + 1)))) else (none)) else (some 1)
def phaetonref06_And.f (k : Nat) (l0 : List Int) : Option (Int) := phaetonref06_And.l0 k l0 0
theorem phaetonref06_And.mono_l : ∀ k, (∀ y0 y1, LeO (phaetonref06_And.l0 k y0 y1) (phaetonref06_And.l0 (k + 1) y0 y1))
  | 0 => fun _ _ r h => by simp [phaetonref06_And.l0] at h
  | k + 1 => by
    have ih0 := phaetonref06_And.mono_l k
    · intro y0 y1
      unfold phaetonref06_And.l0
      repeat' first
      | (with_reducible exact ih0 _ _)
      | (with_reducible exact LeO.refl _)
      | (with_reducible exact LeO.none _)
      | (with_reducible refine LeO.ite ?_ ?_)
      | (with_reducible refine LeO.bind ?_ (fun _ => ?_))
      | exact ih0 _ _
      | exact LeO.none _
      | refine LeO.ite ?_ ?_
      | refine LeO.bind ?_ (fun _ => ?_)
theorem phaetonref06_And.mono : ∀ a0 k, LeO (phaetonref06_And.f k a0) (phaetonref06_And.f (k + 1) a0) := by
  intro a0 k
  have ih0 := phaetonref06_And.mono_l k
  unfold phaetonref06_And.f
  repeat' first
      | (with_reducible exact ih0 _ _)
      | (with_reducible exact LeO.refl _)
      | (with_reducible exact LeO.none _)
      | (with_reducible refine LeO.ite ?_ ?_)
      | (with_reducible refine LeO.bind ?_ (fun _ => ?_))
      | exact ih0 _ _
      | exact LeO.none _
      | refine LeO.ite ?_ ?_
      | refine LeO.bind ?_ (fun _ => ?_)
set_option maxHeartbeats 8000000 in
set_option maxRecDepth 100000 in
theorem phaetonref06_And.calls (k : Nat) (A0 : Option Addr) (c0 : Nat) (l0 : List Int) (r : Int) (w : World) (hr0 : Kd.C (Kd.int .i64) w A0 l0.length l0) (hc0 : l0.length ≤ c0) (h : phaetonref06_And.f k l0 = some r) :
    Calls Try.prog 22 #[.slice A0 l0.length c0] w fun e w' => e = .returned (.int .i64 r) ∧ Drawn0 w w' := by
  have HR0 := Aside0.mk hr0
  have HC0 := Aside0.mk hc0
  clear hr0 hc0
  have H : (phaetonref06_And.l0 k l0 0) = some r := h
  clear h
  have H' := Aside0.mk H
  clear H
  go_enter Try.func22, Try.ntmps22
  go_wp2
  go_loopg [3] k (fun kq v3 w' => ∃ (x3_1 : Int), v3 = .int .i64 x3_1 ∧ Aside0 (phaetonref06_And.l0 kq l0 x3_1 = some r) ∧ Aside0 (kq ≤ k) ∧ Drawn0 w w')
  case atStart => exact ⟨(0), (by first | rfl | (simp; done) | (simp [*]; done)), H', ⟨Nat.le_refl _⟩, by repeat (first | exact Drawn0.refl _ | apply Drawn0.step)⟩
  case round =>
    clear H'
    obtain ⟨x3_1, rfl, HA, HK1, ⟨m1, rfl⟩⟩ := hrel
    cases gk with
    | zero => exact absurd HA.out (by simp [phaetonref06_And.l0])
    | succ k1 =>
      have H := HA.out
      clear HA
      simp only [phaetonref06_And.l0] at H
      by_cases c2 : x3_1 < (l0.length : Int)
      · rw [if_pos c2] at H
        have c2b0 : decide (x3_1 < (l0.length : Int)) = true := decide_eq_true c2
        clear c2
        by_cases c3 : 0 ≤ x3_1
        · rw [if_pos c3] at H
          have c3b0 : decide (0 ≤ x3_1) = true := decide_eq_true c3
          clear c3
          by_cases c4 : (rd l0 x3_1) = 0
          · rw [if_pos c4] at H
            have c4b0 : ((rd l0 x3_1) == 0) = true := beq_iff_eq.mpr c4
            have c4b1 : ((rd l0 x3_1) != 0) = false := bne_eq_false_iff_eq.mpr c4
            clear c4
            obtain rfl := Option.some.inj H
            have p271 : 0 ≤ (x3_1 : Int) := of_decide_eq_true (by first | (with_reducible assumption) | assumption)
            have q271 : x3_1 < (l0.length : Int) := of_decide_eq_true (by first | (with_reducible assumption) | assumption)
            obtain ⟨ad271, e271, hx271_0⟩ := Kd.at_int HR0.out x3_1 p271 q271
            cases e271
            replace p271 := eq_true p271
            replace q271 := eq_true q271
            go_wp2
            go_ret
            exact ⟨by first | rfl | (simp; done) | (simp [*]; done), by repeat (first | exact Drawn0.refl _ | apply Drawn0.step)⟩
          · rw [if_neg c4] at H
            have c4b0 : ((rd l0 x3_1) == 0) = false := beq_eq_false_iff_ne.mpr c4
            have c4b1 : ((rd l0 x3_1) != 0) = true := bne_iff_ne.mpr c4
            have H' := Aside0.mk H
            clear H
            have p271 : 0 ≤ (x3_1 : Int) := of_decide_eq_true (by first | (with_reducible assumption) | assumption)
            have q271 : x3_1 < (l0.length : Int) := of_decide_eq_true (by first | (with_reducible assumption) | assumption)
            obtain ⟨ad271, e271, hx271_0⟩ := Kd.at_int HR0.out x3_1 p271 q271
            cases e271
            replace p271 := eq_true p271
            replace q271 := eq_true q271
            go_wp2
            go_roundg k1
            case measure => have := HK1.out; omega
            case rel => exact ⟨(wrap64 (x3_1 + 1)), (by first | rfl | (simp; done) | (simp [*]; done)), H', ⟨by have := HK1.out; omega⟩, by repeat (first | exact Drawn0.refl _ | apply Drawn0.step)⟩
        · rw [if_neg c3] at H
          exact absurd H (by simp)
      · rw [if_neg c2] at H
        have c2b0 : decide (x3_1 < (l0.length : Int)) = false := decide_eq_false c2
        clear c2
        obtain rfl := Option.some.inj H
        go_wp2
        go_ret
        exact ⟨by first | rfl | (simp; done) | (simp [*]; done), by repeat (first | exact Drawn0.refl _ | apply Drawn0.step)⟩

/-! ### phaetonlaw06_ArbTells: function 3 -/
def phaetonlaw06_ArbTells.f (k : Nat) (l0 : List (S35)) (l1 : List Int) : Option (Bool) := (phaetonlaw06_head.f k).bind fun t272 => ((phaetonref06_Frames.f k l0 10).bind fun t273 => ((phaetonref03_Bits.f k l1 50).bind fun t276 => ((arb_Win.f t273).bind fun t279 => ((phaetonref06_Win.f k t273).bind fun t280 => (if t279 = t280 then ((arb_Lost.f t273).bind fun t281 => ((phaetonref06_Lost.f k t273).bind fun t284 => ((phaetonref03_Ints.f k t281 t284).bind fun t287 => (if t287 = true then ((arb_Line.f t273).bind fun t288 => ((phaetonref06_Line.f k t273).bind fun t291 => ((phaetonref03_Ints.f k t288 t291).bind fun t294 => (if t294 = true then ((arb_And.f k t276).bind fun t295 => ((phaetonref06_And.f k t276).bind fun t296 => (if t295 = t296 then (if t272 = true then (some true) else (none)) else (none)))) else (none))))) else (none))))) else (none))))))
theorem phaetonlaw06_ArbTells.mono : ∀ a0 a1 k, LeO (phaetonlaw06_ArbTells.f k a0 a1) (phaetonlaw06_ArbTells.f (k + 1) a0 a1) := by
  intro a0 a1 k
  unfold phaetonlaw06_ArbTells.f
  repeat' first
      | (with_reducible exact arb_And.mono _ _)
      | (with_reducible exact phaetonlaw06_head.mono _)
      | (with_reducible exact phaetonref03_Bits.mono _ _ _)
      | (with_reducible exact phaetonref03_Ints.mono _ _ _)
      | (with_reducible exact phaetonref06_And.mono _ _)
      | (with_reducible exact phaetonref06_Frames.mono _ _ _)
      | (with_reducible exact phaetonref06_Line.mono _ _)
      | (with_reducible exact phaetonref06_Lost.mono _ _)
      | (with_reducible exact phaetonref06_Win.mono _ _)
      | (with_reducible exact LeO.refl _)
      | (with_reducible exact LeO.none _)
      | (with_reducible refine LeO.ite ?_ ?_)
      | (with_reducible refine LeO.bind ?_ (fun _ => ?_))
      | exact arb_And.mono _ _
      | exact phaetonlaw06_head.mono _
      | exact phaetonref03_Bits.mono _ _ _
      | exact phaetonref03_Ints.mono _ _ _
      | exact phaetonref06_And.mono _ _
      | exact phaetonref06_Frames.mono _ _ _
      | exact phaetonref06_Line.mono _ _
      | exact phaetonref06_Lost.mono _ _
      | exact phaetonref06_Win.mono _ _
      | exact LeO.none _
      | refine LeO.ite ?_ ?_
      | refine LeO.bind ?_ (fun _ => ?_)
set_option maxHeartbeats 8000000 in
set_option maxRecDepth 100000 in
theorem phaetonlaw06_ArbTells.calls (k : Nat) (A0 : Option Addr) (c0 : Nat) (l0 : List (S35)) (A1 : Option Addr) (c1 : Nat) (l1 : List Int) (r : Bool) (w : World) (hr0 : Kd.C k35 w A0 l0.length l0) (hc0 : l0.length ≤ c0) (hr1 : Kd.C (Kd.int .i64) w A1 l1.length l1) (hc1 : l1.length ≤ c1) (h : phaetonlaw06_ArbTells.f k l0 l1 = some r) :
    Calls Try.prog 3 #[.slice A0 l0.length c0, .slice A1 l1.length c1] w fun e w' => e = .returned (.bool r) ∧ Below w.heap.size w w' := by
  have HR0 := Aside0.mk hr0
  have HC0 := Aside0.mk hc0
  clear hr0 hc0
  have HR1 := Aside0.mk hr1
  have HC1 := Aside0.mk hc1
  clear hr1 hc1
  have HB := Aside0.mk (Below.refl w.heap.size w)
  have H : ((phaetonlaw06_head.f k).bind fun t272 => ((phaetonref06_Frames.f k l0 10).bind fun t273 => ((phaetonref03_Bits.f k l1 50).bind fun t276 => ((arb_Win.f t273).bind fun t279 => ((phaetonref06_Win.f k t273).bind fun t280 => (if t279 = t280 then ((arb_Lost.f t273).bind fun t281 => ((phaetonref06_Lost.f k t273).bind fun t284 => ((phaetonref03_Ints.f k t281 t284).bind fun t287 => (if t287 = true then ((arb_Line.f t273).bind fun t288 => ((phaetonref06_Line.f k t273).bind fun t291 => ((phaetonref03_Ints.f k t288 t291).bind fun t294 => (if t294 = true then ((arb_And.f k t276).bind fun t295 => ((phaetonref06_And.f k t276).bind fun t296 => (if t295 = t296 then (if t272 = true then (some true) else (none)) else (none)))) else (none))))) else (none))))) else (none))))))) = some r := h
  clear h
  replace H := Option.bind_eq_some_iff.mp H
  obtain ⟨t272, A30, H⟩ := H
  replace H : ((phaetonref06_Frames.f k l0 10).bind fun t273 => ((phaetonref03_Bits.f k l1 50).bind fun t276 => ((arb_Win.f t273).bind fun t279 => ((phaetonref06_Win.f k t273).bind fun t280 => (if t279 = t280 then ((arb_Lost.f t273).bind fun t281 => ((phaetonref06_Lost.f k t273).bind fun t284 => ((phaetonref03_Ints.f k t281 t284).bind fun t287 => (if t287 = true then ((arb_Line.f t273).bind fun t288 => ((phaetonref06_Line.f k t273).bind fun t291 => ((phaetonref03_Ints.f k t288 t291).bind fun t294 => (if t294 = true then ((arb_And.f k t276).bind fun t295 => ((phaetonref06_And.f k t276).bind fun t296 => (if t295 = t296 then (if t272 = true then (some true) else (none)) else (none)))) else (none))))) else (none))))) else (none)))))) = some r := H
  have A3 := Aside0.mk A30
  clear A30
  replace H := Option.bind_eq_some_iff.mp H
  obtain ⟨t273, A40, H⟩ := H
  replace H : ((phaetonref03_Bits.f k l1 50).bind fun t276 => ((arb_Win.f t273).bind fun t279 => ((phaetonref06_Win.f k t273).bind fun t280 => (if t279 = t280 then ((arb_Lost.f t273).bind fun t281 => ((phaetonref06_Lost.f k t273).bind fun t284 => ((phaetonref03_Ints.f k t281 t284).bind fun t287 => (if t287 = true then ((arb_Line.f t273).bind fun t288 => ((phaetonref06_Line.f k t273).bind fun t291 => ((phaetonref03_Ints.f k t288 t291).bind fun t294 => (if t294 = true then ((arb_And.f k t276).bind fun t295 => ((phaetonref06_And.f k t276).bind fun t296 => (if t295 = t296 then (if t272 = true then (some true) else (none)) else (none)))) else (none))))) else (none))))) else (none))))) = some r := H
  have A4 := Aside0.mk A40
  clear A40
  replace H := Option.bind_eq_some_iff.mp H
  obtain ⟨t276, A50, H⟩ := H
  replace H : ((arb_Win.f t273).bind fun t279 => ((phaetonref06_Win.f k t273).bind fun t280 => (if t279 = t280 then ((arb_Lost.f t273).bind fun t281 => ((phaetonref06_Lost.f k t273).bind fun t284 => ((phaetonref03_Ints.f k t281 t284).bind fun t287 => (if t287 = true then ((arb_Line.f t273).bind fun t288 => ((phaetonref06_Line.f k t273).bind fun t291 => ((phaetonref03_Ints.f k t288 t291).bind fun t294 => (if t294 = true then ((arb_And.f k t276).bind fun t295 => ((phaetonref06_And.f k t276).bind fun t296 => (if t295 = t296 then (if t272 = true then (some true) else (none)) else (none)))) else (none))))) else (none))))) else (none)))) = some r := H
  have A5 := Aside0.mk A50
  clear A50
  replace H := Option.bind_eq_some_iff.mp H
  obtain ⟨t279, A60, H⟩ := H
  replace H : ((phaetonref06_Win.f k t273).bind fun t280 => (if t279 = t280 then ((arb_Lost.f t273).bind fun t281 => ((phaetonref06_Lost.f k t273).bind fun t284 => ((phaetonref03_Ints.f k t281 t284).bind fun t287 => (if t287 = true then ((arb_Line.f t273).bind fun t288 => ((phaetonref06_Line.f k t273).bind fun t291 => ((phaetonref03_Ints.f k t288 t291).bind fun t294 => (if t294 = true then ((arb_And.f k t276).bind fun t295 => ((phaetonref06_And.f k t276).bind fun t296 => (if t295 = t296 then (if t272 = true then (some true) else (none)) else (none)))) else (none))))) else (none))))) else (none))) = some r := H
  have A6 := Aside0.mk A60
  clear A60
  replace H := Option.bind_eq_some_iff.mp H
  obtain ⟨t280, A70, H⟩ := H
  replace H : (if t279 = t280 then ((arb_Lost.f t273).bind fun t281 => ((phaetonref06_Lost.f k t273).bind fun t284 => ((phaetonref03_Ints.f k t281 t284).bind fun t287 => (if t287 = true then ((arb_Line.f t273).bind fun t288 => ((phaetonref06_Line.f k t273).bind fun t291 => ((phaetonref03_Ints.f k t288 t291).bind fun t294 => (if t294 = true then ((arb_And.f k t276).bind fun t295 => ((phaetonref06_And.f k t276).bind fun t296 => (if t295 = t296 then (if t272 = true then (some true) else (none)) else (none)))) else (none))))) else (none))))) else (none)) = some r := H
  have A7 := Aside0.mk A70
  clear A70
  by_cases c8 : t279 = t280
  · rw [if_pos c8] at H
    have c8b0 : (t279 == t280) = true := beq_iff_eq.mpr c8
    have c8b1 : (t279 != t280) = false := bne_eq_false_iff_eq.mpr c8
    clear c8
    replace H := Option.bind_eq_some_iff.mp H
    obtain ⟨t281, A90, H⟩ := H
    replace H : ((phaetonref06_Lost.f k t273).bind fun t284 => ((phaetonref03_Ints.f k t281 t284).bind fun t287 => (if t287 = true then ((arb_Line.f t273).bind fun t288 => ((phaetonref06_Line.f k t273).bind fun t291 => ((phaetonref03_Ints.f k t288 t291).bind fun t294 => (if t294 = true then ((arb_And.f k t276).bind fun t295 => ((phaetonref06_And.f k t276).bind fun t296 => (if t295 = t296 then (if t272 = true then (some true) else (none)) else (none)))) else (none))))) else (none)))) = some r := H
    have A9 := Aside0.mk A90
    clear A90
    replace H := Option.bind_eq_some_iff.mp H
    obtain ⟨t284, A100, H⟩ := H
    replace H : ((phaetonref03_Ints.f k t281 t284).bind fun t287 => (if t287 = true then ((arb_Line.f t273).bind fun t288 => ((phaetonref06_Line.f k t273).bind fun t291 => ((phaetonref03_Ints.f k t288 t291).bind fun t294 => (if t294 = true then ((arb_And.f k t276).bind fun t295 => ((phaetonref06_And.f k t276).bind fun t296 => (if t295 = t296 then (if t272 = true then (some true) else (none)) else (none)))) else (none))))) else (none))) = some r := H
    have A10 := Aside0.mk A100
    clear A100
    replace H := Option.bind_eq_some_iff.mp H
    obtain ⟨t287, A110, H⟩ := H
    replace H : (if t287 = true then ((arb_Line.f t273).bind fun t288 => ((phaetonref06_Line.f k t273).bind fun t291 => ((phaetonref03_Ints.f k t288 t291).bind fun t294 => (if t294 = true then ((arb_And.f k t276).bind fun t295 => ((phaetonref06_And.f k t276).bind fun t296 => (if t295 = t296 then (if t272 = true then (some true) else (none)) else (none)))) else (none))))) else (none)) = some r := H
    have A11 := Aside0.mk A110
    clear A110
    by_cases c12 : t287 = true
    · subst c12
      have H1 : ((arb_Line.f t273).bind fun t288 => ((phaetonref06_Line.f k t273).bind fun t291 => ((phaetonref03_Ints.f k t288 t291).bind fun t294 => (if t294 = true then ((arb_And.f k t276).bind fun t295 => ((phaetonref06_And.f k t276).bind fun t296 => (if t295 = t296 then (if t272 = true then (some true) else (none)) else (none)))) else (none))))) = some r := by rw [if_pos rfl] at H; exact H
      clear H
      have H := H1
      clear H1
      replace H := Option.bind_eq_some_iff.mp H
      obtain ⟨t288, A130, H⟩ := H
      replace H : ((phaetonref06_Line.f k t273).bind fun t291 => ((phaetonref03_Ints.f k t288 t291).bind fun t294 => (if t294 = true then ((arb_And.f k t276).bind fun t295 => ((phaetonref06_And.f k t276).bind fun t296 => (if t295 = t296 then (if t272 = true then (some true) else (none)) else (none)))) else (none)))) = some r := H
      have A13 := Aside0.mk A130
      clear A130
      replace H := Option.bind_eq_some_iff.mp H
      obtain ⟨t291, A140, H⟩ := H
      replace H : ((phaetonref03_Ints.f k t288 t291).bind fun t294 => (if t294 = true then ((arb_And.f k t276).bind fun t295 => ((phaetonref06_And.f k t276).bind fun t296 => (if t295 = t296 then (if t272 = true then (some true) else (none)) else (none)))) else (none))) = some r := H
      have A14 := Aside0.mk A140
      clear A140
      replace H := Option.bind_eq_some_iff.mp H
      obtain ⟨t294, A150, H⟩ := H
      replace H : (if t294 = true then ((arb_And.f k t276).bind fun t295 => ((phaetonref06_And.f k t276).bind fun t296 => (if t295 = t296 then (if t272 = true then (some true) else (none)) else (none)))) else (none)) = some r := H
      have A15 := Aside0.mk A150
      clear A150
      by_cases c16 : t294 = true
      · subst c16
        have H1 : ((arb_And.f k t276).bind fun t295 => ((phaetonref06_And.f k t276).bind fun t296 => (if t295 = t296 then (if t272 = true then (some true) else (none)) else (none)))) = some r := by rw [if_pos rfl] at H; exact H
        clear H
        have H := H1
        clear H1
        replace H := Option.bind_eq_some_iff.mp H
        obtain ⟨t295, A170, H⟩ := H
        replace H : ((phaetonref06_And.f k t276).bind fun t296 => (if t295 = t296 then (if t272 = true then (some true) else (none)) else (none))) = some r := H
        have A17 := Aside0.mk A170
        clear A170
        replace H := Option.bind_eq_some_iff.mp H
        obtain ⟨t296, A180, H⟩ := H
        replace H : (if t295 = t296 then (if t272 = true then (some true) else (none)) else (none)) = some r := H
        have A18 := Aside0.mk A180
        clear A180
        by_cases c19 : t295 = t296
        · rw [if_pos c19] at H
          have c19b0 : (t295 == t296) = true := beq_iff_eq.mpr c19
          have c19b1 : (t295 != t296) = false := bne_eq_false_iff_eq.mpr c19
          clear c19
          by_cases c20 : t272 = true
          · subst c20
            have H1 : (some true) = some r := by rw [if_pos rfl] at H; exact H
            clear H
            have H := H1
            clear H1
            obtain rfl := Option.some.inj H
            go_enter Try.func3, Try.ntmps3
            (try simp only [List.append])
            go_wp2_with (first | ((with_reducible refine gate_callee (f := 11) rfl ?_); refine goesL_ (some 6) rfl rfl Try.func11 (by kernel_rfl) rfl #[] rfl (by (try simp only [List.map_toArray, List.map_cons, List.map_nil]); first | done | rfl | (simp only [List.length_drop, List.length_take]; rfl)) ?_; (with_reducible refine (phaetonlaw06_head.calls k  true _ A3.out).mono ?_); rintro e w21 ⟨rfl, hb⟩; refine ⟨_, rfl, ?_⟩; have n0_ := Aside0.mk (below_step (by repeat (first | (with_reducible first | exact HB.out | apply below_alloc | apply pw_below_drewN | apply below_drew1) | exact HB.out)) hb); clear HB; have HB := n0_; clear n0_; (try clear hb); (try clear hb2); (try clear hk); (try clear hi)) | ((with_reducible refine gate_callee (f := 12) rfl ?_); refine goesL_ (some 8) rfl rfl Try.func12 (by kernel_rfl) rfl #[.slice A0 l0.length c0, .int .i64 10] rfl (by (try simp only [List.map_toArray, List.map_cons, List.map_nil]); first | done | rfl | (simp only [List.length_drop, List.length_take]; rfl)) ?_; (with_reducible refine (phaetonref06_Frames.calls k _ _ l0 10 t273 _ ?side1 ?side2 A4.out).mono ?_); (case side1 => repeat (first | exact (Kd.C_below HR0.out HB.out) | (with_reducible refine Kd.C_alloc ?_ _) | (with_reducible refine Kd.C_drewN ?_ _) | (with_reducible refine Kd.C_drew ?_))); (case side2 => exact HC0.out); rintro e w22 ⟨v274, rfl, ho0, hb⟩; refine ⟨_, rfl, ?_⟩; have n0_ := Aside0.mk (Kd.S_lower ho0 (below_size (by repeat (first | (with_reducible first | exact HB.out | apply below_alloc | apply pw_below_drewN | apply below_drew1) | exact HB.out)))); have n1_ := Aside0.mk (below_step (by repeat (first | (with_reducible first | exact HB.out | apply below_alloc | apply pw_below_drewN | apply below_drew1) | exact HB.out)) hb); clear HB; have HO275 := n0_; have HB := n1_; clear n0_ n1_; (try clear hb); (try clear hb2); (try clear hk); (try clear hi); (try clear ho0)) | ((with_reducible refine gate_callee (f := 13) rfl ?_); refine goesL_ (some 10) rfl rfl Try.func13 (by kernel_rfl) rfl #[.slice A1 l1.length c1, .int .i64 50] rfl (by (try simp only [List.map_toArray, List.map_cons, List.map_nil]); first | done | rfl | (simp only [List.length_drop, List.length_take]; rfl)) ?_; (with_reducible refine (phaetonref03_Bits.calls k _ _ l1 50 t276 _ ?side1 ?side2 A5.out).mono ?_); (case side1 => repeat (first | exact (Kd.C_below HR1.out HB.out) | (with_reducible refine Kd.C_alloc ?_ _) | (with_reducible refine Kd.C_drewN ?_ _) | (with_reducible refine Kd.C_drew ?_))); (case side2 => exact HC1.out); rintro e w23 ⟨v277, rfl, ho0, hb⟩; refine ⟨_, rfl, ?_⟩; have n0_ := Aside0.mk (Kd.S_below (by (with_reducible repeat (first | apply Kd.S_alloc | apply Kd.S_drewN | apply Kd.S_drew)); exact HO275.out) hb); have n1_ := Aside0.mk (Kd.R_lower ho0 (below_size (by repeat (first | (with_reducible first | exact HB.out | apply below_alloc | apply pw_below_drewN | apply below_drew1) | exact HB.out)))); have n2_ := Aside0.mk (below_step (by repeat (first | (with_reducible first | exact HB.out | apply below_alloc | apply pw_below_drewN | apply below_drew1) | exact HB.out)) hb); clear HO275; clear HB; have HO275 := n0_; have HO278 := n1_; have HB := n2_; clear n0_ n1_ n2_; (try clear hb); (try clear hb2); (try clear hk); (try clear hi); (try clear ho0); obtain ⟨Ao24, co24, eo24⟩ := Kd.S_slice HO275.out; subst eo24) | ((with_reducible refine gate_callee (f := 14) rfl ?_); refine goesL_ (some 12) rfl rfl Try.func14 (by kernel_rfl) rfl #[.slice Ao24 t273.length co24] rfl (by (try simp only [List.map_toArray, List.map_cons, List.map_nil]); first | done | rfl | (simp only [List.length_drop, List.length_take]; rfl)) ?_; (with_reducible refine (arb_Win.calls _ _ t273 t279 _ ?side1 ?side2 A6.out).mono ?_); (case side1 => repeat (first | exact (Kd.S_reads' HO275.out).2.2 | (with_reducible refine Kd.C_alloc ?_ _) | (with_reducible refine Kd.C_drewN ?_ _) | (with_reducible refine Kd.C_drew ?_))); (case side2 => exact (Kd.S_reads' HO275.out).2.1); rintro e w25 ⟨rfl, hb⟩; refine ⟨_, rfl, ?_⟩; have n0_ := Aside0.mk (Kd.S_below (by (with_reducible repeat (first | apply Kd.S_alloc | apply Kd.S_drewN | apply Kd.S_drew)); exact HO275.out) hb); have n1_ := Aside0.mk (Kd.R_below (by (with_reducible repeat (first | apply Kd.R_alloc | apply Kd.R_drewN | apply Kd.R_drew)); exact HO278.out) hb); have n2_ := Aside0.mk (below_step (by repeat (first | (with_reducible first | exact HB.out | apply below_alloc | apply pw_below_drewN | apply below_drew1) | exact HB.out)) hb); clear HO275; clear HO278; clear HB; have HO275 := n0_; have HO278 := n1_; have HB := n2_; clear n0_ n1_ n2_; (try clear hb); (try clear hb2); (try clear hk); (try clear hi)) | ((with_reducible refine gate_callee (f := 15) rfl ?_); refine goesL_ (some 14) rfl rfl Try.func15 (by kernel_rfl) rfl #[.slice Ao24 t273.length co24] rfl (by (try simp only [List.map_toArray, List.map_cons, List.map_nil]); first | done | rfl | (simp only [List.length_drop, List.length_take]; rfl)) ?_; (with_reducible refine (phaetonref06_Win.calls k _ _ t273 t280 _ ?side1 ?side2 A7.out).mono ?_); (case side1 => repeat (first | exact (Kd.S_reads' HO275.out).2.2 | (with_reducible refine Kd.C_alloc ?_ _) | (with_reducible refine Kd.C_drewN ?_ _) | (with_reducible refine Kd.C_drew ?_))); (case side2 => exact (Kd.S_reads' HO275.out).2.1); rintro e w26 ⟨rfl, hb⟩; refine ⟨_, rfl, ?_⟩; have n0_ := Aside0.mk (Kd.S_below (by (with_reducible repeat (first | apply Kd.S_alloc | apply Kd.S_drewN | apply Kd.S_drew)); exact HO275.out) hb); have n1_ := Aside0.mk (Kd.R_below (by (with_reducible repeat (first | apply Kd.R_alloc | apply Kd.R_drewN | apply Kd.R_drew)); exact HO278.out) hb); have n2_ := Aside0.mk (below_step (by repeat (first | (with_reducible first | exact HB.out | apply below_alloc | apply pw_below_drewN | apply below_drew1) | exact HB.out)) hb); clear HO275; clear HO278; clear HB; have HO275 := n0_; have HO278 := n1_; have HB := n2_; clear n0_ n1_ n2_; (try clear hb); (try clear hb2); (try clear hk); (try clear hi)) | (go_at_call 17; (with_reducible refine (arb_Lost.calls _ _ t273 t281 _ ?side1 ?side2 A9.out).mono ?_); (case side1 => repeat (first | exact (Kd.S_reads' HO275.out).2.2 | (with_reducible refine Kd.C_alloc ?_ _) | (with_reducible refine Kd.C_drewN ?_ _) | (with_reducible refine Kd.C_drew ?_))); (case side2 => exact (Kd.S_reads' HO275.out).2.1); rintro e w27 ⟨v282, rfl, ho0, hb⟩; have n0_ := Aside0.mk (Kd.S_below (by (with_reducible repeat (first | apply Kd.S_alloc | apply Kd.S_drewN | apply Kd.S_drew)); exact HO275.out) hb); have n1_ := Aside0.mk (Kd.R_elder' (by (with_reducible repeat (first | apply Kd.R_alloc | apply Kd.R_drewN | apply Kd.R_drew)); exact HO278.out) (Kd.R_base ho0) hb); have n2_ := Aside0.mk (Kd.R_lower (Kd.R_new' ho0 (Kd.R_lt (by (with_reducible repeat (first | apply Kd.R_alloc | apply Kd.R_drewN | apply Kd.R_drew)); exact HO278.out))) (below_size (by repeat (first | (with_reducible first | exact HB.out | apply below_alloc | apply pw_below_drewN | apply below_drew1) | exact HB.out)))); have n3_ := Aside0.mk (below_step (by repeat (first | (with_reducible first | exact HB.out | apply below_alloc | apply pw_below_drewN | apply below_drew1) | exact HB.out)) hb); clear HO275; clear HO278; clear HB; have HO275 := n0_; have HO278 := n1_; have HO283 := n2_; have HB := n3_; clear n0_ n1_ n2_ n3_; (try clear hb); (try clear hb2); (try clear hk); (try clear hi); (try clear ho0)) | (go_at_call 18; (with_reducible refine (phaetonref06_Lost.calls k _ _ t273 t284 _ ?side1 ?side2 A10.out).mono ?_); (case side1 => repeat (first | exact (Kd.S_reads' HO275.out).2.2 | (with_reducible refine Kd.C_alloc ?_ _) | (with_reducible refine Kd.C_drewN ?_ _) | (with_reducible refine Kd.C_drew ?_))); (case side2 => exact (Kd.S_reads' HO275.out).2.1); rintro e w28 ⟨v285, rfl, ho0, hb⟩; have n0_ := Aside0.mk (Kd.S_below (by (with_reducible repeat (first | apply Kd.S_alloc | apply Kd.S_drewN | apply Kd.S_drew)); exact HO275.out) hb); have n1_ := Aside0.mk (Kd.R_elder' (by (with_reducible repeat (first | apply Kd.R_alloc | apply Kd.R_drewN | apply Kd.R_drew)); exact HO278.out) (Kd.R_base ho0) hb); have n2_ := Aside0.mk (Kd.R_elder' (by (with_reducible repeat (first | apply Kd.R_alloc | apply Kd.R_drewN | apply Kd.R_drew)); exact HO283.out) (Kd.R_base ho0) hb); have n3_ := Aside0.mk (Kd.R_lower (Kd.R_new' (Kd.R_new' ho0 (Kd.R_lt (by (with_reducible repeat (first | apply Kd.R_alloc | apply Kd.R_drewN | apply Kd.R_drew)); exact HO278.out))) (Kd.R_lt (by (with_reducible repeat (first | apply Kd.R_alloc | apply Kd.R_drewN | apply Kd.R_drew)); exact HO283.out))) (below_size (by repeat (first | (with_reducible first | exact HB.out | apply below_alloc | apply pw_below_drewN | apply below_drew1) | exact HB.out)))); have n4_ := Aside0.mk (below_step (by repeat (first | (with_reducible first | exact HB.out | apply below_alloc | apply pw_below_drewN | apply below_drew1) | exact HB.out)) hb); clear HO275; clear HO278; clear HO283; clear HB; have HO275 := n0_; have HO278 := n1_; have HO283 := n2_; have HO286 := n3_; have HB := n4_; clear n0_ n1_ n2_ n3_ n4_; (try clear hb); (try clear hb2); (try clear hk); (try clear hi); (try clear ho0); obtain ⟨Ao29, co29, eo29⟩ := Kd.R_slice HO283.out; subst eo29; obtain ⟨Ao30, co30, eo30⟩ := Kd.R_slice HO286.out; subst eo30) | (go_at_call 16; (with_reducible refine (phaetonref03_Ints.calls k _ _ t281 _ _ t284 true _ ?side1 ?side2 ?side3 ?side4 A11.out).mono ?_); (case side1 => repeat (first | exact (Kd.R_reads' HO283.out).2.2 | (with_reducible refine Kd.C_alloc ?_ _) | (with_reducible refine Kd.C_drewN ?_ _) | (with_reducible refine Kd.C_drew ?_))); (case side2 => exact (Kd.R_reads' HO283.out).2.1); (case side3 => repeat (first | exact (Kd.R_reads' HO286.out).2.2 | (with_reducible refine Kd.C_alloc ?_ _) | (with_reducible refine Kd.C_drewN ?_ _) | (with_reducible refine Kd.C_drew ?_))); (case side4 => exact (Kd.R_reads' HO286.out).2.1); rintro e w' ⟨rfl, ⟨nd, rfl⟩⟩) | (go_at_call 19; (with_reducible refine (arb_Line.calls _ _ t273 t288 _ ?side1 ?side2 A13.out).mono ?_); (case side1 => repeat (first | exact (Kd.S_reads' HO275.out).2.2 | (with_reducible refine Kd.C_alloc ?_ _) | (with_reducible refine Kd.C_drewN ?_ _) | (with_reducible refine Kd.C_drew ?_))); (case side2 => exact (Kd.S_reads' HO275.out).2.1); rintro e w31 ⟨v289, rfl, ho0, hb⟩; have n0_ := Aside0.mk (Kd.S_below (by (with_reducible repeat (first | apply Kd.S_alloc | apply Kd.S_drewN | apply Kd.S_drew)); exact HO275.out) hb); have n1_ := Aside0.mk (Kd.R_elder' (by (with_reducible repeat (first | apply Kd.R_alloc | apply Kd.R_drewN | apply Kd.R_drew)); exact HO278.out) (Kd.R_base ho0) hb); have n2_ := Aside0.mk (Kd.R_elder' (by (with_reducible repeat (first | apply Kd.R_alloc | apply Kd.R_drewN | apply Kd.R_drew)); exact HO283.out) (Kd.R_base ho0) hb); have n3_ := Aside0.mk (Kd.R_elder' (by (with_reducible repeat (first | apply Kd.R_alloc | apply Kd.R_drewN | apply Kd.R_drew)); exact HO286.out) (Kd.R_base ho0) hb); have n4_ := Aside0.mk (Kd.R_lower (Kd.R_new' (Kd.R_new' (Kd.R_new' ho0 (Kd.R_lt (by (with_reducible repeat (first | apply Kd.R_alloc | apply Kd.R_drewN | apply Kd.R_drew)); exact HO278.out))) (Kd.R_lt (by (with_reducible repeat (first | apply Kd.R_alloc | apply Kd.R_drewN | apply Kd.R_drew)); exact HO283.out))) (Kd.R_lt (by (with_reducible repeat (first | apply Kd.R_alloc | apply Kd.R_drewN | apply Kd.R_drew)); exact HO286.out))) (below_size (by repeat (first | (with_reducible first | exact HB.out | apply below_alloc | apply pw_below_drewN | apply below_drew1) | exact HB.out)))); have n5_ := Aside0.mk (below_step (by repeat (first | (with_reducible first | exact HB.out | apply below_alloc | apply pw_below_drewN | apply below_drew1) | exact HB.out)) hb); clear HO275; clear HO278; clear HO283; clear HO286; clear HB; have HO275 := n0_; have HO278 := n1_; have HO283 := n2_; have HO286 := n3_; have HO290 := n4_; have HB := n5_; clear n0_ n1_ n2_ n3_ n4_ n5_; (try clear hb); (try clear hb2); (try clear hk); (try clear hi); (try clear ho0)) | (go_at_call 20; (with_reducible refine (phaetonref06_Line.calls k _ _ t273 t291 _ ?side1 ?side2 A14.out).mono ?_); (case side1 => repeat (first | exact (Kd.S_reads' HO275.out).2.2 | (with_reducible refine Kd.C_alloc ?_ _) | (with_reducible refine Kd.C_drewN ?_ _) | (with_reducible refine Kd.C_drew ?_))); (case side2 => exact (Kd.S_reads' HO275.out).2.1); rintro e w32 ⟨v292, rfl, ho0, hb⟩; have n0_ := Aside0.mk (Kd.S_below (by (with_reducible repeat (first | apply Kd.S_alloc | apply Kd.S_drewN | apply Kd.S_drew)); exact HO275.out) hb); have n1_ := Aside0.mk (Kd.R_elder' (by (with_reducible repeat (first | apply Kd.R_alloc | apply Kd.R_drewN | apply Kd.R_drew)); exact HO278.out) (Kd.R_base ho0) hb); have n2_ := Aside0.mk (Kd.R_elder' (by (with_reducible repeat (first | apply Kd.R_alloc | apply Kd.R_drewN | apply Kd.R_drew)); exact HO283.out) (Kd.R_base ho0) hb); have n3_ := Aside0.mk (Kd.R_elder' (by (with_reducible repeat (first | apply Kd.R_alloc | apply Kd.R_drewN | apply Kd.R_drew)); exact HO286.out) (Kd.R_base ho0) hb); have n4_ := Aside0.mk (Kd.R_elder' (by (with_reducible repeat (first | apply Kd.R_alloc | apply Kd.R_drewN | apply Kd.R_drew)); exact HO290.out) (Kd.R_base ho0) hb); have n5_ := Aside0.mk (Kd.R_lower (Kd.R_new' (Kd.R_new' (Kd.R_new' (Kd.R_new' ho0 (Kd.R_lt (by (with_reducible repeat (first | apply Kd.R_alloc | apply Kd.R_drewN | apply Kd.R_drew)); exact HO278.out))) (Kd.R_lt (by (with_reducible repeat (first | apply Kd.R_alloc | apply Kd.R_drewN | apply Kd.R_drew)); exact HO283.out))) (Kd.R_lt (by (with_reducible repeat (first | apply Kd.R_alloc | apply Kd.R_drewN | apply Kd.R_drew)); exact HO286.out))) (Kd.R_lt (by (with_reducible repeat (first | apply Kd.R_alloc | apply Kd.R_drewN | apply Kd.R_drew)); exact HO290.out))) (below_size (by repeat (first | (with_reducible first | exact HB.out | apply below_alloc | apply pw_below_drewN | apply below_drew1) | exact HB.out)))); have n6_ := Aside0.mk (below_step (by repeat (first | (with_reducible first | exact HB.out | apply below_alloc | apply pw_below_drewN | apply below_drew1) | exact HB.out)) hb); clear HO275; clear HO278; clear HO283; clear HO286; clear HO290; clear HB; have HO275 := n0_; have HO278 := n1_; have HO283 := n2_; have HO286 := n3_; have HO290 := n4_; have HO293 := n5_; have HB := n6_; clear n0_ n1_ n2_ n3_ n4_ n5_ n6_; (try clear hb); (try clear hb2); (try clear hk); (try clear hi); (try clear ho0); obtain ⟨Ao33, co33, eo33⟩ := Kd.R_slice HO290.out; subst eo33; obtain ⟨Ao34, co34, eo34⟩ := Kd.R_slice HO293.out; subst eo34) | (go_at_call 16; (with_reducible refine (phaetonref03_Ints.calls k _ _ t288 _ _ t291 true _ ?side1 ?side2 ?side3 ?side4 A15.out).mono ?_); (case side1 => repeat (first | exact (Kd.R_reads' HO290.out).2.2 | (with_reducible refine Kd.C_alloc ?_ _) | (with_reducible refine Kd.C_drewN ?_ _) | (with_reducible refine Kd.C_drew ?_))); (case side2 => exact (Kd.R_reads' HO290.out).2.1); (case side3 => repeat (first | exact (Kd.R_reads' HO293.out).2.2 | (with_reducible refine Kd.C_alloc ?_ _) | (with_reducible refine Kd.C_drewN ?_ _) | (with_reducible refine Kd.C_drew ?_))); (case side4 => exact (Kd.R_reads' HO293.out).2.1); rintro e w' ⟨rfl, ⟨nd, rfl⟩⟩; obtain ⟨Ao35, co35, eo35⟩ := Kd.R_slice HO278.out; subst eo35) | (go_at_call 21; (with_reducible refine (arb_And.calls k _ _ t276 t295 _ ?side1 ?side2 A17.out).mono ?_); (case side1 => repeat (first | exact (Kd.R_reads' HO278.out).2.2 | (with_reducible refine Kd.C_alloc ?_ _) | (with_reducible refine Kd.C_drewN ?_ _) | (with_reducible refine Kd.C_drew ?_))); (case side2 => exact (Kd.R_reads' HO278.out).2.1); rintro e w36 ⟨rfl, hb⟩; have n0_ := Aside0.mk (Kd.S_below (by (with_reducible repeat (first | apply Kd.S_alloc | apply Kd.S_drewN | apply Kd.S_drew)); exact HO275.out) hb); have n1_ := Aside0.mk (Kd.R_below (by (with_reducible repeat (first | apply Kd.R_alloc | apply Kd.R_drewN | apply Kd.R_drew)); exact HO278.out) hb); have n2_ := Aside0.mk (Kd.R_below (by (with_reducible repeat (first | apply Kd.R_alloc | apply Kd.R_drewN | apply Kd.R_drew)); exact HO283.out) hb); have n3_ := Aside0.mk (Kd.R_below (by (with_reducible repeat (first | apply Kd.R_alloc | apply Kd.R_drewN | apply Kd.R_drew)); exact HO286.out) hb); have n4_ := Aside0.mk (Kd.R_below (by (with_reducible repeat (first | apply Kd.R_alloc | apply Kd.R_drewN | apply Kd.R_drew)); exact HO290.out) hb); have n5_ := Aside0.mk (Kd.R_below (by (with_reducible repeat (first | apply Kd.R_alloc | apply Kd.R_drewN | apply Kd.R_drew)); exact HO293.out) hb); have n6_ := Aside0.mk (below_step (by repeat (first | (with_reducible first | exact HB.out | apply below_alloc | apply pw_below_drewN | apply below_drew1) | exact HB.out)) hb); clear HO275; clear HO278; clear HO283; clear HO286; clear HO290; clear HO293; clear HB; have HO275 := n0_; have HO278 := n1_; have HO283 := n2_; have HO286 := n3_; have HO290 := n4_; have HO293 := n5_; have HB := n6_; clear n0_ n1_ n2_ n3_ n4_ n5_ n6_; (try clear hb); (try clear hb2); (try clear hk); (try clear hi)) | (go_at_call 22; (with_reducible refine (phaetonref06_And.calls k _ _ t276 t296 _ ?side1 ?side2 A18.out).mono ?_); (case side1 => repeat (first | exact (Kd.R_reads' HO278.out).2.2 | (with_reducible refine Kd.C_alloc ?_ _) | (with_reducible refine Kd.C_drewN ?_ _) | (with_reducible refine Kd.C_drew ?_))); (case side2 => exact (Kd.R_reads' HO278.out).2.1); rintro e w' ⟨rfl, ⟨nd, rfl⟩⟩))
            go_ret
            exact ⟨by first | rfl | (simp [errW_none, errW_some] <;> rfl) | (simp [*, errW_none, errW_some] <;> rfl), by repeat (first | (with_reducible first | exact HB.out | apply below_alloc | apply pw_below_drewN | apply below_drew1) | exact HB.out)⟩
          · replace c20 := Bool.eq_false_iff.mpr c20
            subst c20
            have H1 : (none) = some r := by rw [if_neg (show ¬ (false = true) by decide)] at H; exact H
            clear H
            have H := H1
            clear H1
            exact absurd H (by simp)
        · rw [if_neg c19] at H
          exact absurd H (by simp)
      · replace c16 := Bool.eq_false_iff.mpr c16
        subst c16
        have H1 : (none) = some r := by rw [if_neg (show ¬ (false = true) by decide)] at H; exact H
        clear H
        have H := H1
        clear H1
        exact absurd H (by simp)
    · replace c12 := Bool.eq_false_iff.mpr c12
      subst c12
      have H1 : (none) = some r := by rw [if_neg (show ¬ (false = true) by decide)] at H; exact H
      clear H
      have H := H1
      clear H1
      exact absurd H (by simp)
  · rw [if_neg c8] at H
    exact absurd H (by simp)

/-- THE ONE PURE STATEMENT of phaetonlaw06_ArbTells. -/
def phaetonlaw06_ArbTells.Pure : Prop := ∀ (l0 : List (S35)) (l1 : List Int), l0.length ≤ maxLen → (∀ x ∈ l0, (fun (x : S35) => (fun (_ : Bool) => True) x.f0 ∧ ((fun (x : Int) => (Lit.int .i64 x).wf = true) x.f1 ∧ ((fun (_ : Bool) => True) x.f2 ∧ ((fun (x : Int) => (Lit.int .i64 x).wf = true) x.f3 ∧ ((fun (l : List Int) => ∀ x ∈ l, (fun (x : Int) => (Lit.int .u8 x).wf = true) x) x.f4))))) x) → l1.length ≤ maxLen → l1.length * 8 ≤ 140737488351232 → (∀ x ∈ l1, (fun (x : Int) => (Lit.int .i64 x).wf = true) x) → ∃ k, phaetonlaw06_ArbTells.f k l0 l1 = some true
theorem phaetonlaw06_ArbTells.walk (P : phaetonlaw06_ArbTells.Pure) (A0 : Option Addr) (c0 : Nat) (l0 : List (S35)) (A1 : Option Addr) (c1 : Nat) (l1 : List Int) (w : World) (hw0 : ∀ x ∈ l0, (fun (x : S35) => (fun (_ : Bool) => True) x.f0 ∧ ((fun (x : Int) => (Lit.int .i64 x).wf = true) x.f1 ∧ ((fun (_ : Bool) => True) x.f2 ∧ ((fun (x : Int) => (Lit.int .i64 x).wf = true) x.f3 ∧ ((fun (l : List Int) => ∀ x ∈ l, (fun (x : Int) => (Lit.int .u8 x).wf = true) x) x.f4))))) x) (hr0 : Kd.C k35 w A0 l0.length l0) (hc0 : l0.length ≤ c0) (y1 : l1.length * 8 ≤ 140737488351232) (hw1 : ∀ x ∈ l1, (fun (x : Int) => (Lit.int .i64 x).wf = true) x) (hr1 : Kd.C (Kd.int .i64) w A1 l1.length l1) (hc1 : l1.length ≤ c1) :
    Calls Try.prog 3 #[.slice A0 l0.length c0, .slice A1 l1.length c1] w fun e w' => e = .returned (.bool true) ∧ Below w.heap.size w w' := by
  obtain ⟨k, h⟩ := P l0 l1 (by have := hr0.2.1; unfold maxLen; omega) hw0 (by have := hr1.2.1; unfold maxLen; omega) y1 hw1
  refine (phaetonlaw06_ArbTells.calls k _ _ l0 _ _ l1 true w hr0 hc0 hr1 hc1 h).mono ?_
  rintro e w' ⟨rfl, hd⟩
  exact ⟨rfl, hd⟩

end Go.Proofs.Ytcdbndjicjghgaa.Px

-- Written by myprint.py, a program of this session's, over the kit's print.py; not a text of print.sh's own.
import Derived.Test.YtiphbgcmbbfpmaaPx0
namespace Go.Proofs.Ytiphbgcmbbfpmaa.Px
open Go.RowKit Go.Proofs.YtiphbgcmbbfpmaaW.PrintWords Go.Proofs.YtiphbgcmbbfpmaaW.PrintLast Go.Proofs.YtiphbgcmbbfpmaaW.PrintMore
attribute [local go_sem] max2_int min2_int max_two min_two max_three min_three max_four min_four   -- for this text's walks alone
set_option linter.unusedVariables false
set_option linter.unusedSimpArgs false

/-! ### phaetonref01_Right: function 21 -/
def phaetonref01_Right.l0 : Nat → List Int → Int → Option (Bool)
 | 0, _, _ => none
 | k + 1, x0, x3 => if x3 < (x0.length : Int) then (if 0 ≤ x3 then (if (rd x0 x3) = 0 then (phaetonref01_Right.l0 k x0 (wrap64 (x3 + 1))) else (if (rd x0 x3) = 1 then (phaetonref01_Right.l0 k x0 (wrap64 (x3 + 1))) else (some false))) else (none)) else (some true)
def phaetonref01_Right.f (k : Nat) (l0 : List Int) : Option (Bool) := phaetonref01_Right.l0 k l0 0
theorem phaetonref01_Right.mono_l : ∀ k, (∀ y0 y1, LeO (phaetonref01_Right.l0 k y0 y1) (phaetonref01_Right.l0 (k + 1) y0 y1))
 | 0 => fun _ _ r h => by simp [phaetonref01_Right.l0] at h
 | k + 1 => by
  have ih0 := phaetonref01_Right.mono_l k
  ·intro y0 y1
   unfold phaetonref01_Right.l0
   repeat' first
   | (with_reducible exact ih0 _ _)
   | (with_reducible exact LeO.refl _)
   | (with_reducible exact LeO.none _)
   | (with_reducible refine LeO.ite ?_ ?_)
   | (with_reducible refine LeO.bind ?_ (fun _ => ?_))
   | exact ih0 _ _
   | exact LeO.none _
   | refine LeO.ite ?_ ?_
   | refine LeO.bind ?_ (fun _ => ?_)
theorem phaetonref01_Right.mono : ∀ a0 k, LeO (phaetonref01_Right.f k a0) (phaetonref01_Right.f (k + 1) a0) := by
 intro a0 k
 have ih0 := phaetonref01_Right.mono_l k
 unfold phaetonref01_Right.f
 repeat' first
   | (with_reducible exact ih0 _ _)
   | (with_reducible exact LeO.refl _)
   | (with_reducible exact LeO.none _)
   | (with_reducible refine LeO.ite ?_ ?_)
   | (with_reducible refine LeO.bind ?_ (fun _ => ?_))
   | exact ih0 _ _
   | exact LeO.none _
   | refine LeO.ite ?_ ?_
   | refine LeO.bind ?_ (fun _ => ?_)
set_option maxHeartbeats 8000000 in
set_option maxRecDepth 100000 in
theorem phaetonref01_Right.calls (k : Nat) (A0 : Option Addr) (c0 : Nat) (l0 : List Int) (r : Bool) (w : World) (hr0 : Kd.C (Kd.int .i64) w A0 l0.length l0) (hc0 : l0.length ≤ c0) (h : phaetonref01_Right.f k l0 = some r) :
  Calls Try.prog 21 #[.slice A0 l0.length c0] w fun e w' => e = .returned (.bool r) ∧ Drawn0 w w' := by
 have HR0 := Aside0.mk hr0
 have HC0 := Aside0.mk hc0
 clear hr0 hc0
 have H : (phaetonref01_Right.l0 k l0 0) = some r := h
 clear h
 have H' := Aside0.mk H
 clear H
 go_enter Try.func21, Try.ntmps21
 go_wp2
 go_loopg [3] k (fun kq v3 w' => ∃ (x3_1 : Int), v3 = .int .i64 x3_1 ∧ Aside0 (phaetonref01_Right.l0 kq l0 x3_1 = some r) ∧ Aside0 (kq ≤ k) ∧ Drawn0 w w')
 case atStart => exact ⟨(0), (by first | rfl | (simp; done) | (simp [*]; done)), H', ⟨Nat.le_refl _⟩, by repeat (first | exact Drawn0.refl _ | apply Drawn0.step)⟩
 case round =>
  clear H'
  obtain ⟨x3_1, rfl, HA, HK1, ⟨m1, rfl⟩⟩ := hrel
  cases gk with
  | zero => exact absurd HA.out (by simp [phaetonref01_Right.l0])
  | succ k1 =>
   have H := HA.out
   clear HA
   simp only [phaetonref01_Right.l0] at H
   by_cases c2 : x3_1 < (l0.length : Int)
   ·rw [if_pos c2] at H
    have c2b0 : decide (x3_1 < (l0.length : Int)) = true := decide_eq_true c2
    clear c2
    by_cases c3 : 0 ≤ x3_1
    ·rw [if_pos c3] at H
     have c3b0 : decide (0 ≤ x3_1) = true := decide_eq_true c3
     clear c3
     by_cases c4 : (rd l0 x3_1) = 0
     ·rw [if_pos c4] at H
      have c4b0 : ((rd l0 x3_1) == 0) = true := beq_iff_eq.mpr c4
      have c4b1 : ((rd l0 x3_1) != 0) = false := bne_eq_false_iff_eq.mpr c4
      clear c4
      have H' := Aside0.mk H
      clear H
      have p317 : 0 ≤ (x3_1 : Int) := of_decide_eq_true (by first | (with_reducible assumption) | assumption)
      have q317 : x3_1 < (l0.length : Int) := of_decide_eq_true (by first | (with_reducible assumption) | assumption)
      obtain ⟨ad317, e317, hx317_0⟩ := Kd.at_int HR0.out x3_1 p317 q317
      cases e317
      replace p317 := eq_true p317
      replace q317 := eq_true q317
      go_wp2
      go_roundg k1
      case measure => have := HK1.out; omega
      case rel => exact ⟨(wrap64 (x3_1 + 1)), (by first | rfl | (simp; done) | (simp [*]; done)), H', ⟨by have := HK1.out; omega⟩, by repeat (first | exact Drawn0.refl _ | apply Drawn0.step)⟩
     ·rw [if_neg c4] at H
      have c4b0 : ((rd l0 x3_1) == 0) = false := beq_eq_false_iff_ne.mpr c4
      have c4b1 : ((rd l0 x3_1) != 0) = true := bne_iff_ne.mpr c4
      by_cases c5 : (rd l0 x3_1) = 1
      ·rw [if_pos c5] at H
       have c5b0 : ((rd l0 x3_1) == 1) = true := beq_iff_eq.mpr c5
       have c5b1 : ((rd l0 x3_1) != 1) = false := bne_eq_false_iff_eq.mpr c5
       clear c5
       have H' := Aside0.mk H
       clear H
       have p317 : 0 ≤ (x3_1 : Int) := of_decide_eq_true (by first | (with_reducible assumption) | assumption)
       have q317 : x3_1 < (l0.length : Int) := of_decide_eq_true (by first | (with_reducible assumption) | assumption)
       obtain ⟨ad317, e317, hx317_0⟩ := Kd.at_int HR0.out x3_1 p317 q317
       cases e317
       replace p317 := eq_true p317
       replace q317 := eq_true q317
       have p318 : 0 ≤ (x3_1 : Int) := of_decide_eq_true (by first | (with_reducible assumption) | assumption)
       have q318 : x3_1 < (l0.length : Int) := of_decide_eq_true (by first | (with_reducible assumption) | assumption)
       obtain ⟨ad318, e318, hx318_0⟩ := Kd.at_int HR0.out x3_1 p318 q318
       obtain rfl : ad317 = ad318 := (by injection e318)
       replace p318 := eq_true p318
       replace q318 := eq_true q318
       go_wp2
       go_roundg k1
       case measure => have := HK1.out; omega
       case rel => exact ⟨(wrap64 (x3_1 + 1)), (by first | rfl | (simp; done) | (simp [*]; done)), H', ⟨by have := HK1.out; omega⟩, by repeat (first | exact Drawn0.refl _ | apply Drawn0.step)⟩
      ·rw [if_neg c5] at H
       have c5b0 : ((rd l0 x3_1) == 1) = false := beq_eq_false_iff_ne.mpr c5
       have c5b1 : ((rd l0 x3_1) != 1) = true := bne_iff_ne.mpr c5
       obtain rfl := Option.some.inj H
       have p317 : 0 ≤ (x3_1 : Int) := of_decide_eq_true (by first | (with_reducible assumption) | assumption)
       have q317 : x3_1 < (l0.length : Int) := of_decide_eq_true (by first | (with_reducible assumption) | assumption)
       obtain ⟨ad317, e317, hx317_0⟩ := Kd.at_int HR0.out x3_1 p317 q317
       cases e317
       replace p317 := eq_true p317
       replace q317 := eq_true q317
       have p318 : 0 ≤ (x3_1 : Int) := of_decide_eq_true (by first | (with_reducible assumption) | assumption)
       have q318 : x3_1 < (l0.length : Int) := of_decide_eq_true (by first | (with_reducible assumption) | assumption)
       obtain ⟨ad318, e318, hx318_0⟩ := Kd.at_int HR0.out x3_1 p318 q318
       obtain rfl : ad317 = ad318 := (by injection e318)
       replace p318 := eq_true p318
       replace q318 := eq_true q318
       go_wp2
       go_ret
       exact ⟨by first | rfl | (simp; done) | (simp [*]; done), by repeat (first | exact Drawn0.refl _ | apply Drawn0.step)⟩
    ·rw [if_neg c3] at H
     exact absurd H (by simp)
   ·rw [if_neg c2] at H
    have c2b0 : decide (x3_1 < (l0.length : Int)) = false := decide_eq_false c2
    clear c2
    obtain rfl := Option.some.inj H
    go_wp2
    go_ret
    exact ⟨by first | rfl | (simp; done) | (simp [*]; done), by repeat (first | exact Drawn0.refl _ | apply Drawn0.step)⟩

/-! ### phaetonref01_Get: function 35 -/
mutual
def phaetonref01_Get.j0 : Nat → List Int → Bool → Option (Int × Bool)
 | 0, _, _ => none
 | k + 1, x0, x13 => if x13 = true then (some (0, false)) else (phaetonref01_Get.l0 k x0 0 0)
def phaetonref01_Get.l0 : Nat → List Int → Int → Int → Option (Int × Bool)
 | 0, _, _, _ => none
 | k + 1, x0, x4, x5 => if x5 < (x0.length : Int) then (if 0 ≤ x5 then (phaetonref01_Get.l0 k x0 (wrap64 ((wrap64 (2 * x4)) + (rd x0 x5))) (wrap64 (x5 + 1))) else (none)) else (some (x4, true))
end
def phaetonref01_Get.f (k : Nat) (l0 : List Int) : Option (Int × Bool) := if (l0.length : Int) > 32 then (phaetonref01_Get.j0 k l0 true) else ((phaetonref01_Right.f k l0).bind fun t319 => (phaetonref01_Get.j0 k l0 (!t319)))
theorem phaetonref01_Get.mono_l : ∀ k, (∀ y0 y1, LeO (phaetonref01_Get.j0 k y0 y1) (phaetonref01_Get.j0 (k + 1) y0 y1)) ∧ (∀ y0 y1 y2, LeO (phaetonref01_Get.l0 k y0 y1 y2) (phaetonref01_Get.l0 (k + 1) y0 y1 y2))
 | 0 => ⟨fun _ _ r h => by simp [phaetonref01_Get.j0] at h, fun _ _ _ r h => by simp [phaetonref01_Get.l0] at h⟩
 | k + 1 => by
  obtain ⟨ih0, ih1⟩ := phaetonref01_Get.mono_l k
  refine ⟨?_, ?_⟩
  ·intro y0 y1
   unfold phaetonref01_Get.j0
   repeat' first
   | (with_reducible exact ih0 _ _)
   | (with_reducible exact ih1 _ _ _)
   | (with_reducible exact phaetonref01_Right.mono _ _)
   | (with_reducible exact LeO.refl _)
   | (with_reducible exact LeO.none _)
   | (with_reducible refine LeO.ite ?_ ?_)
   | (with_reducible refine LeO.bind ?_ (fun _ => ?_))
   | exact ih0 _ _
   | exact ih1 _ _ _
   | exact phaetonref01_Right.mono _ _
   | exact LeO.none _
   | refine LeO.ite ?_ ?_
   | refine LeO.bind ?_ (fun _ => ?_)
  ·intro y0 y1 y2
   unfold phaetonref01_Get.l0
   repeat' first
   | (with_reducible exact ih0 _ _)
   | (with_reducible exact ih1 _ _ _)
   | (with_reducible exact phaetonref01_Right.mono _ _)
   | (with_reducible exact LeO.refl _)
   | (with_reducible exact LeO.none _)
   | (with_reducible refine LeO.ite ?_ ?_)
   | (with_reducible refine LeO.bind ?_ (fun _ => ?_))
   | exact ih0 _ _
   | exact ih1 _ _ _
   | exact phaetonref01_Right.mono _ _
   | exact LeO.none _
   | refine LeO.ite ?_ ?_
   | refine LeO.bind ?_ (fun _ => ?_)
theorem phaetonref01_Get.mono : ∀ a0 k, LeO (phaetonref01_Get.f k a0) (phaetonref01_Get.f (k + 1) a0) := by
 intro a0 k
 obtain ⟨ih0, ih1⟩ := phaetonref01_Get.mono_l k
 unfold phaetonref01_Get.f
 repeat' first
   | (with_reducible exact ih0 _ _)
   | (with_reducible exact ih1 _ _ _)
   | (with_reducible exact phaetonref01_Right.mono _ _)
   | (with_reducible exact LeO.refl _)
   | (with_reducible exact LeO.none _)
   | (with_reducible refine LeO.ite ?_ ?_)
   | (with_reducible refine LeO.bind ?_ (fun _ => ?_))
   | exact ih0 _ _
   | exact ih1 _ _ _
   | exact phaetonref01_Right.mono _ _
   | exact LeO.none _
   | refine LeO.ite ?_ ?_
   | refine LeO.bind ?_ (fun _ => ?_)
set_option maxHeartbeats 8000000 in
set_option maxRecDepth 100000 in
theorem phaetonref01_Get.calls (k : Nat) (A0 : Option Addr) (c0 : Nat) (l0 : List Int) (r1 : Int) (r2 : Bool) (w : World) (hr0 : Kd.C (Kd.int .i64) w A0 l0.length l0) (hc0 : l0.length ≤ c0) (h : phaetonref01_Get.f k l0 = some (r1, r2)) :
  Calls Try.prog 35 #[.slice A0 l0.length c0] w fun e w' => e = .returned (.tuple #[.int .i64 r1, .bool r2]) ∧ Drawn0 w w' := by
 have HR0 := Aside0.mk hr0
 have HC0 := Aside0.mk hc0
 clear hr0 hc0
 have H : (if (l0.length : Int) > 32 then (phaetonref01_Get.j0 k l0 true) else ((phaetonref01_Right.f k l0).bind fun t319 => (phaetonref01_Get.j0 k l0 (!t319)))) = some (r1, r2) := h
 clear h
 have HC2 := Aside0.mk H
 clear H
 go_enter Try.func35, Try.ntmps35
 go_upto_region 1 with (fail)
 go_cut [13] (fun v13 wc => ∃ (kq : Nat) (x13_1 : Bool), v13 = .bool x13_1 ∧ Aside0 (phaetonref01_Get.j0 kq l0 x13_1 = some (r1, r2)) ∧ Aside0 (kq ≤ k) ∧ Drawn0 w wc)
 case first =>
  have H := HC2.out
  clear HC2
  by_cases c3 : (l0.length : Int) > 32
  ·rw [if_pos c3] at H
   have c3b0 : decide (32 < (l0.length : Int)) = true := decide_eq_true c3
   have c3b1 : decide (32 < l0.length) = true := decide_eq_true (by omega)
   clear c3
   (first | rw [c3b0] | (simp only [i64_w, i32_w]; rw [c3b0]) | skip)
   have H' := Aside0.mk H
   clear H
   go_wp2
   go_meet
   case rel => exact ⟨_, (true), (by first | rfl | (simp; done) | (simp [*]; done)), H', ⟨by first | omega | exact Nat.le_refl _⟩, by repeat (first | exact Drawn0.refl _ | apply Drawn0.step)⟩
  ·rw [if_neg c3] at H
   have c3b0 : decide (32 < (l0.length : Int)) = false := decide_eq_false c3
   have c3b1 : decide (32 < l0.length) = false := decide_eq_false (by omega)
   clear c3
   (first | rw [c3b0] | (simp only [i64_w, i32_w]; rw [c3b0]) | skip)
   replace H := Option.bind_eq_some_iff.mp H
   obtain ⟨t319, A40, H⟩ := H
   replace H : (phaetonref01_Get.j0 k l0 (!t319)) = some (r1, r2) := H
   have A4 := Aside0.mk A40
   clear A40
   have H' := Aside0.mk H
   clear H
   go_wp2_with (first | (go_at_call 21; (with_reducible refine (phaetonref01_Right.calls k _ _ l0 t319 _ ?side1 ?side2 A4.out).mono ?_); (case side1 => repeat (first | exact HR0.out | (with_reducible refine Kd.C_alloc ?_ _) | (with_reducible refine Kd.C_drewN ?_ _) | (with_reducible refine Kd.C_drew ?_))); (case side2 => exact HC0.out); rintro e w' ⟨rfl, ⟨nd, rfl⟩⟩))
   go_meet
   case rel => exact ⟨_, (!t319), (by first | rfl | (simp; done) | (simp [*]; done)), H', ⟨by first | omega | exact Nat.le_refl _⟩, by repeat (first | exact Drawn0.refl _ | apply Drawn0.step)⟩
 case rest =>
  clear HC2
  try clear p2
  try clear c3
  try clear c3b0
  try clear c3b1
  obtain ⟨kq, x13_1, rfl, HA, HJ1, ⟨mc1, rfl⟩⟩ := hcut
  cases kq with
  | zero => exact absurd HA.out (by simp [phaetonref01_Get.j0])
  | succ kj1 =>
   have H := HA.out
   clear HA
   simp only [phaetonref01_Get.j0] at H
   by_cases c5 : x13_1 = true
   ·subst c5
    have H1 : (some (0, false)) = some (r1, r2) := by rw [if_pos rfl] at H; exact H
    clear H
    have H := H1
    clear H1
    simp only [Option.some.injEq, Prod.mk.injEq] at H
    obtain ⟨rfl, rfl⟩ := H
    go_wp2
    go_ret2
    exact ⟨by first | rfl | (simp; done) | (simp [*]; done), by repeat (first | exact Drawn0.refl _ | apply Drawn0.step)⟩
   ·replace c5 := Bool.eq_false_iff.mpr c5
    subst c5
    have H1 : (phaetonref01_Get.l0 kj1 l0 0 0) = some (r1, r2) := by rw [if_neg (show ¬ (false = true) by decide)] at H; exact H
    clear H
    have H := H1
    clear H1
    have H' := Aside0.mk H
    clear H
    go_wp2
    go_loopg [4, 5] kj1 (fun kq v4 v5 w' => ∃ (x4_2 : Int) (x5_2 : Int), v4 = .int .i64 x4_2 ∧ v5 = .int .i64 x5_2 ∧ Aside0 (phaetonref01_Get.l0 kq l0 x4_2 x5_2 = some (r1, r2)) ∧ Aside0 (kq ≤ kj1) ∧ Drawn0 w w')
    case atStart => exact ⟨(0), (0), (by first | rfl | (simp; done) | (simp [*]; done)), (by first | rfl | (simp; done) | (simp [*]; done)), H', ⟨Nat.le_refl _⟩, by repeat (first | exact Drawn0.refl _ | apply Drawn0.step)⟩
    case round =>
     clear H'
     try clear c1
     try clear p2
     try clear c3
     try clear c3b0
     try clear c3b1
     try clear c5
     try clear p2
     obtain ⟨x4_2, x5_2, rfl, rfl, HA, HK2, ⟨m2, rfl⟩⟩ := hrel
     cases gk with
     | zero => exact absurd HA.out (by simp [phaetonref01_Get.l0])
     | succ k2 =>
      have H := HA.out
      clear HA
      simp only [phaetonref01_Get.l0] at H
      by_cases c6 : x5_2 < (l0.length : Int)
      ·rw [if_pos c6] at H
       have c6b0 : decide (x5_2 < (l0.length : Int)) = true := decide_eq_true c6
       clear c6
       by_cases c7 : 0 ≤ x5_2
       ·rw [if_pos c7] at H
        have c7b0 : decide (0 ≤ x5_2) = true := decide_eq_true c7
        clear c7
        have H' := Aside0.mk H
        clear H
        have p320 : 0 ≤ (x5_2 : Int) := of_decide_eq_true (by first | (with_reducible assumption) | assumption)
        have q320 : x5_2 < (l0.length : Int) := of_decide_eq_true (by first | (with_reducible assumption) | assumption)
        obtain ⟨ad320, e320, hx320_0⟩ := Kd.at_int HR0.out x5_2 p320 q320
        cases e320
        replace p320 := eq_true p320
        replace q320 := eq_true q320
        go_wp2
        go_roundg k2
        case measure => have := HJ1.out; have := HK2.out; omega
        case rel => exact ⟨(wrap64 ((wrap64 (2 * x4_2)) + (rd l0 x5_2))), (wrap64 (x5_2 + 1)), (by first | rfl | (simp; done) | (simp [*]; done)), (by first | rfl | (simp; done) | (simp [*]; done)), H', ⟨by have := HJ1.out; have := HK2.out; omega⟩, by repeat (first | exact Drawn0.refl _ | apply Drawn0.step)⟩
       ·rw [if_neg c7] at H
        exact absurd H (by simp)
      ·rw [if_neg c6] at H
       have c6b0 : decide (x5_2 < (l0.length : Int)) = false := decide_eq_false c6
       clear c6
       simp only [Option.some.injEq, Prod.mk.injEq] at H
       obtain ⟨rfl, rfl⟩ := H
       go_wp2
       go_ret2
       exact ⟨by first | rfl | (simp; done) | (simp [*]; done), by repeat (first | exact Drawn0.refl _ | apply Drawn0.step)⟩

/-! ### phaetonref01_Join: function 36 -/
mutual
def phaetonref01_Join.j0 : Nat → List Int → Bool → Option (List Int × Bool)
 | 0, _, _ => none
 | k + 1, x0, x16 => if x16 = true then (some (([] : List Int), false)) else (phaetonref01_Join.l0 k x0 ([] : List Int) 0)
def phaetonref01_Join.l0 : Nat → List Int → List Int → Int → Option (List Int × Bool)
 | 0, _, _, _ => none
 | k + 1, x0, x4, x5 => if x5 < (x0.length : Int) then (if 0 ≤ x5 then (if x5 ≤ (wrap64 (x5 + 8)) then (if (wrap64 (x5 + 8)) ≤ (x0.length : Int) then ((phaetonref01_Get.f k ((x0.take ((wrap64 (x5 + 8)) : Int).toNat).drop (x5 : Int).toNat)).bind fun bt323 => (if x4.length < 140737488355328 then (phaetonref01_Join.l0 k x0 (x4 ++ [(bt323.1) % 256]) (wrap64 (x5 + 8))) else (none))) else (none)) else (none)) else (none)) else (some (x4, true))
end
def phaetonref01_Join.f (k : Nat) (l0 : List Int) : Option (List Int × Bool) := (phaetonref01_Right.f k l0).bind fun t321 => (if t321 = true then (phaetonref01_Join.j0 k l0 (((l0.length : Int) % 8) != 0)) else (phaetonref01_Join.j0 k l0 true))
theorem phaetonref01_Join.mono_l : ∀ k, (∀ y0 y1, LeO (phaetonref01_Join.j0 k y0 y1) (phaetonref01_Join.j0 (k + 1) y0 y1)) ∧ (∀ y0 y1 y2, LeO (phaetonref01_Join.l0 k y0 y1 y2) (phaetonref01_Join.l0 (k + 1) y0 y1 y2))
 | 0 => ⟨fun _ _ r h => by simp [phaetonref01_Join.j0] at h, fun _ _ _ r h => by simp [phaetonref01_Join.l0] at h⟩
 | k + 1 => by
  obtain ⟨ih0, ih1⟩ := phaetonref01_Join.mono_l k
  refine ⟨?_, ?_⟩
  ·intro y0 y1
   unfold phaetonref01_Join.j0
   repeat' first
   | (with_reducible exact ih0 _ _)
   | (with_reducible exact ih1 _ _ _)
   | (with_reducible exact phaetonref01_Get.mono _ _)
   | (with_reducible exact phaetonref01_Right.mono _ _)
   | (with_reducible exact LeO.refl _)
   | (with_reducible exact LeO.none _)
   | (with_reducible refine LeO.ite ?_ ?_)
   | (with_reducible refine LeO.bind ?_ (fun _ => ?_))
   | exact ih0 _ _
   | exact ih1 _ _ _
   | exact phaetonref01_Get.mono _ _
   | exact phaetonref01_Right.mono _ _
   | exact LeO.none _
   | refine LeO.ite ?_ ?_
   | refine LeO.bind ?_ (fun _ => ?_)
  ·intro y0 y1 y2
   unfold phaetonref01_Join.l0
   repeat' first
   | (with_reducible exact ih0 _ _)
   | (with_reducible exact ih1 _ _ _)
   | (with_reducible exact phaetonref01_Get.mono _ _)
   | (with_reducible exact phaetonref01_Right.mono _ _)
   | (with_reducible exact LeO.refl _)
   | (with_reducible exact LeO.none _)
   | (with_reducible refine LeO.ite ?_ ?_)
   | (with_reducible refine LeO.bind ?_ (fun _ => ?_))
   | exact ih0 _ _
   | exact ih1 _ _ _
   | exact phaetonref01_Get.mono _ _
   | exact phaetonref01_Right.mono _ _
   | exact LeO.none _
   | refine LeO.ite ?_ ?_
   | refine LeO.bind ?_ (fun _ => ?_)
theorem phaetonref01_Join.mono : ∀ a0 k, LeO (phaetonref01_Join.f k a0) (phaetonref01_Join.f (k + 1) a0) := by
 intro a0 k
 obtain ⟨ih0, ih1⟩ := phaetonref01_Join.mono_l k
 unfold phaetonref01_Join.f
 repeat' first
   | (with_reducible exact ih0 _ _)
   | (with_reducible exact ih1 _ _ _)
   | (with_reducible exact phaetonref01_Get.mono _ _)
   | (with_reducible exact phaetonref01_Right.mono _ _)
   | (with_reducible exact LeO.refl _)
   | (with_reducible exact LeO.none _)
   | (with_reducible refine LeO.ite ?_ ?_)
   | (with_reducible refine LeO.bind ?_ (fun _ => ?_))
   | exact ih0 _ _
   | exact ih1 _ _ _
   | exact phaetonref01_Get.mono _ _
   | exact phaetonref01_Right.mono _ _
   | exact LeO.none _
   | refine LeO.ite ?_ ?_
   | refine LeO.bind ?_ (fun _ => ?_)
set_option maxHeartbeats 8000000 in
set_option maxRecDepth 100000 in
theorem phaetonref01_Join.calls (k : Nat) (A0 : Option Addr) (c0 : Nat) (l0 : List Int) (r1 : List Int) (r2 : Bool) (w : World) (hr0 : Kd.C (Kd.int .i64) w A0 l0.length l0) (hc0 : l0.length ≤ c0) (h : phaetonref01_Join.f k l0 = some (r1, r2)) :
  Calls Try.prog 36 #[.slice A0 l0.length c0] w fun e w' => ∃ v0_ : Value, e = .returned (.tuple #[v0_, .bool r2]) ∧ Kd.R (Kd.int .u8) 5 w' w.heap.size (fun _ => True) v0_ r1 ∧ Below w.heap.size w w' := by
 have HR0 := Aside0.mk hr0
 have HC0 := Aside0.mk hc0
 clear hr0 hc0
 have HB := Aside0.mk (Below.refl w.heap.size w)
 have H : ((phaetonref01_Right.f k l0).bind fun t321 => (if t321 = true then (phaetonref01_Join.j0 k l0 (((l0.length : Int) % 8) != 0)) else (phaetonref01_Join.j0 k l0 true))) = some (r1, r2) := h
 clear h
 have HC2 := Aside0.mk H
 clear H
 go_enter Try.func36, Try.ntmps36
 go_upto_region 1 with (fail)
 go_cut [16] (fun v16 wc => ∃ (kq : Nat) (x16_1 : Bool), v16 = .bool x16_1 ∧ Aside0 (phaetonref01_Join.j0 kq l0 x16_1 = some (r1, r2)) ∧ Aside0 (kq ≤ k) ∧ Aside0 (Below w.heap.size w wc))
 case first =>
  have H := HC2.out
  clear HC2
  replace H := Option.bind_eq_some_iff.mp H
  obtain ⟨t321, A30, H⟩ := H
  replace H : (if t321 = true then (phaetonref01_Join.j0 k l0 (((l0.length : Int) % 8) != 0)) else (phaetonref01_Join.j0 k l0 true)) = some (r1, r2) := H
  have A3 := Aside0.mk A30
  clear A30
  by_cases c4 : t321 = true
  ·subst c4
   have H1 : (phaetonref01_Join.j0 k l0 (((l0.length : Int) % 8) != 0)) = some (r1, r2) := by rw [if_pos rfl] at H; exact H
   clear H
   have H := H1
   clear H1
   have H' := Aside0.mk H
   clear H
   go_wp2_with (first | ((with_reducible refine gate_callee (f := 21) rfl ?_); refine goesL_ (some 9) rfl rfl Try.func21 (by kernel_rfl) rfl #[.slice A0 l0.length c0] rfl (by (try simp only [List.map_toArray, List.map_cons, List.map_nil]); first | done | rfl | (simp only [List.length_drop, List.length_take]; rfl)) ?_; (with_reducible refine (phaetonref01_Right.calls k _ _ l0 true _ ?side1 ?side2 A3.out).mono ?_); (case side1 => repeat (first | exact (Kd.C_below HR0.out HB.out) | (with_reducible refine Kd.C_alloc ?_ _) | (with_reducible refine Kd.C_drewN ?_ _) | (with_reducible refine Kd.C_drew ?_))); (case side2 => exact HC0.out); rintro e w' ⟨rfl, ⟨nd, rfl⟩⟩; refine ⟨_, rfl, ?_⟩))
   go_meet
   case rel => exact ⟨_, ((((l0.length : Int) % 8) != 0)), (by first | rfl | (simp; done) | (simp [*]; done)), H', ⟨by first | omega | exact Nat.le_refl _⟩, ⟨by repeat (first | (with_reducible first | exact HB.out | apply below_alloc | apply pw_below_drewN | apply below_drew1) | exact HB.out)⟩⟩
  ·replace c4 := Bool.eq_false_iff.mpr c4
   subst c4
   have H1 : (phaetonref01_Join.j0 k l0 true) = some (r1, r2) := by rw [if_neg (show ¬ (false = true) by decide)] at H; exact H
   clear H
   have H := H1
   clear H1
   have H' := Aside0.mk H
   clear H
   go_wp2_with (first | ((with_reducible refine gate_callee (f := 21) rfl ?_); refine goesL_ (some 9) rfl rfl Try.func21 (by kernel_rfl) rfl #[.slice A0 l0.length c0] rfl (by (try simp only [List.map_toArray, List.map_cons, List.map_nil]); first | done | rfl | (simp only [List.length_drop, List.length_take]; rfl)) ?_; (with_reducible refine (phaetonref01_Right.calls k _ _ l0 false _ ?side1 ?side2 A3.out).mono ?_); (case side1 => repeat (first | exact (Kd.C_below HR0.out HB.out) | (with_reducible refine Kd.C_alloc ?_ _) | (with_reducible refine Kd.C_drewN ?_ _) | (with_reducible refine Kd.C_drew ?_))); (case side2 => exact HC0.out); rintro e w' ⟨rfl, ⟨nd, rfl⟩⟩; refine ⟨_, rfl, ?_⟩))
   go_meet
   case rel => exact ⟨_, (true), (by first | rfl | (simp; done) | (simp [*]; done)), H', ⟨by first | omega | exact Nat.le_refl _⟩, ⟨by repeat (first | (with_reducible first | exact HB.out | apply below_alloc | apply pw_below_drewN | apply below_drew1) | exact HB.out)⟩⟩
 case rest =>
  clear HC2
  try clear c2
  try clear p2
  try clear c3
  try clear c4
  obtain ⟨kq, x16_1, rfl, HA, HJ1, HB⟩ := hcut
  cases kq with
  | zero => exact absurd HA.out (by simp [phaetonref01_Join.j0])
  | succ kj1 =>
   have H := HA.out
   clear HA
   simp only [phaetonref01_Join.j0] at H
   by_cases c5 : x16_1 = true
   ·subst c5
    have H1 : (some (([] : List Int), false)) = some (r1, r2) := by rw [if_pos rfl] at H; exact H
    clear H
    have H := H1
    clear H1
    simp only [Option.some.injEq, Prod.mk.injEq] at H
    obtain ⟨rfl, rfl⟩ := H
    go_wp2
    go_ret2
    exact ⟨_, by first | rfl | (simp [errW_none, errW_some] <;> rfl) | (simp [*, errW_none, errW_some] <;> rfl), by first | exact Kd.R_nil _ _ _ _ _ | exact Kd.N_nil _ _ _ _ _ | exact Kd.V_nil _ _ _ _ _ | exact Kd.Q_nil _ _ _ _ _ | exact Kd.S_nil _ _ _ _ _, by repeat (first | (with_reducible first | exact HB.out | apply below_alloc | apply pw_below_drewN | apply below_drew1) | exact HB.out)⟩
   ·replace c5 := Bool.eq_false_iff.mpr c5
    subst c5
    have H1 : (phaetonref01_Join.l0 kj1 l0 ([] : List Int) 0) = some (r1, r2) := by rw [if_neg (show ¬ (false = true) by decide)] at H; exact H
    clear H
    have H := H1
    clear H1
    have H' := Aside0.mk H
    clear H
    go_wp2
    go_loopg [4, 5] kj1 (fun kq v4 v5 w' => ∃ (x4_2 : List Int) (x5_2 : Int), v5 = .int .i64 x5_2 ∧ Aside0 (phaetonref01_Join.l0 kq l0 x4_2 x5_2 = some (r1, r2)) ∧ Aside0 (kq ≤ kj1) ∧ Aside0 (Kd.R (Kd.int .u8) 5 w' w.heap.size (fun _ => True) v4 x4_2) ∧ Aside0 (Below w.heap.size w w'))
    case atStart => exact ⟨(([] : List Int)), (0), (by first | rfl | (simp; done) | (simp [*]; done)), H', ⟨Nat.le_refl _⟩, ⟨by first | exact Kd.R_nil _ _ _ _ _ | exact Kd.N_nil _ _ _ _ _ | exact Kd.V_nil _ _ _ _ _ | exact Kd.Q_nil _ _ _ _ _ | exact Kd.S_nil _ _ _ _ _⟩, ⟨by repeat (first | (with_reducible first | exact HB.out | apply below_alloc | apply pw_below_drewN | apply below_drew1) | exact HB.out)⟩⟩
    case round =>
     clear H'
     try clear c2
     try clear p2
     try clear c3
     try clear c4
     try clear c5
     try clear p2
     obtain ⟨x4_2, x5_2, rfl, HA, HK2, HO_4, HB⟩ := hrel
     cases gk with
     | zero => exact absurd HA.out (by simp [phaetonref01_Join.l0])
     | succ k2 =>
      have H := HA.out
      clear HA
      simp only [phaetonref01_Join.l0] at H
      by_cases c6 : x5_2 < (l0.length : Int)
      ·rw [if_pos c6] at H
       have c6b0 : decide (x5_2 < (l0.length : Int)) = true := decide_eq_true c6
       clear c6
       by_cases c7 : 0 ≤ x5_2
       ·rw [if_pos c7] at H
        have c7b0 := eq_true c7
        have c7b1 : decide (0 ≤ x5_2) = true := decide_eq_true c7
        clear c7
        by_cases c8 : x5_2 ≤ (wrap64 (x5_2 + 8))
        ·rw [if_pos c8] at H
         have c8b0 := eq_true c8
         have c8b1 : decide (x5_2 ≤ (wrap64 (x5_2 + 8))) = true := decide_eq_true c8
         by_cases c9 : (wrap64 (x5_2 + 8)) ≤ (l0.length : Int)
         ·rw [if_pos c9] at H
          have c9b0 := eq_true c9
          have c9b1 : decide ((wrap64 (x5_2 + 8)) ≤ (l0.length : Int)) = true := decide_eq_true c9
          replace H := Option.bind_eq_some_iff.mp H
          obtain ⟨⟨t323, t324⟩, A100, H⟩ := H
          replace H : (if x4_2.length < 140737488355328 then (phaetonref01_Join.l0 k2 l0 (x4_2 ++ [(t323) % 256]) (wrap64 (x5_2 + 8))) else (none)) = some (r1, r2) := H
          have A10 := Aside0.mk A100
          clear A100
          by_cases c11 : x4_2.length < 140737488355328
          ·rw [if_pos c11] at H
           have LMc11 := Aside0.mk c11
           clear c11
           obtain ⟨y325, hy325⟩ : ∃ y_ : List Int, y_ = (x4_2 ++ [(t323) % 256]) := ⟨_, rfl⟩
           replace H : (phaetonref01_Join.l0 k2 l0 y325 (wrap64 (x5_2 + 8))) = some (r1, r2) := by first | (rw [hy325]; with_reducible exact H) | (have H2_ := (Option.bind_some _ _).symm.trans H; rw [hy325]; with_reducible exact H2_) | (have H2_ := (Option.bind_some _ _).symm.trans H; with_reducible exact H2_) | with_reducible exact H | (rw [hy325]; exact H) | exact H
           have Ny325 := Aside0.mk hy325
           clear hy325
           have H' := Aside0.mk H
           clear H
           obtain ⟨i012, hi012, _, hsz12, _⟩ := info_parts info3
           obtain ⟨A12, hcut12, hA12, hC12⟩ := print_mid_of (P := Try.prog) (Value.int .i64) 0 25 3 .i64 .i64 Try.underlying25 hi012 hsz12 A0 c0 l0 x5_2 (wrap64 (x5_2 + 8)) (of_decide_eq_true (by first | (with_reducible assumption) | assumption)) (by first | omega | exact of_decide_eq_true (by first | (with_reducible assumption) | assumption)) (of_decide_eq_true (by first | (with_reducible assumption) | assumption)) HC0.out
           have HR322 := Aside0.mk (Kd.C_of_reads (h1 := fun _ => rfl) (hA12 _ (Kd.reads_of_C HR0.out)))
           have HC322 := Aside0.mk hC12
           clear hA12 hC12 hi012 hsz12
           go_wp2_with (first | ((with_reducible refine gate_callee (f := 35) rfl ?_); refine goesL_ (some 29) rfl rfl Try.func35 (by kernel_rfl) rfl #[.slice A12 ((l0.take ((wrap64 (x5_2 + 8)) : Int).toNat).drop (x5_2 : Int).toNat).length (c0 - x5_2.toNat)] rfl (by (try simp only [List.map_toArray, List.map_cons, List.map_nil]); first | done | (rw [show ((l0.take ((wrap64 (x5_2 + 8)) : Int).toNat).drop (x5_2 : Int).toNat).length = ((wrap64 (x5_2 + 8)).toNat - x5_2.toNat) from (by rw [List.length_drop, List.length_take]; have h_ : ((wrap64 (x5_2 + 8)) : Int) ≤ (l0.length : Int) := of_decide_eq_true (by first | (with_reducible assumption) | assumption); omega)] <;> rfl) | rfl | (simp only [List.length_drop, List.length_take]; rfl)) ?_; (with_reducible refine (phaetonref01_Get.calls k2 _ _ ((l0.take ((wrap64 (x5_2 + 8)) : Int).toNat).drop (x5_2 : Int).toNat) t323 t324 _ ?side1 ?side2 A10.out).mono ?_); (case side1 => repeat (first | exact (Kd.C_below HR322.out HB.out) | (with_reducible refine Kd.C_alloc ?_ _) | (with_reducible refine Kd.C_drewN ?_ _) | (with_reducible refine Kd.C_drew ?_))); (case side2 => exact HC322.out); rintro e w' ⟨rfl, ⟨nd, rfl⟩⟩; refine ⟨_, rfl, ?_⟩) | ((with_reducible refine gate_builtin (b := .append) (xs := #[.tmp 32, .tmp 35]) rfl ?_); (try (refine gate_guard (by rfl) ?_; dsimp only)); at_builtin; refine Kd.R_append (Kd.int .u8) (w0 := w) w.heap.size rfl (.tmp 32) (.tmp 35) 22 5 (.int .u8 0) 1 rfl Try.underlying22 info5 rfl (by decide) (by omega) u4 x4_2 ((t323) % 256) [.int .u8 ((t323) % 256)] (fun _ => True) (fun _ => False) rfl rfl ?aP (fun _ hk => hk.elim) ?aF ?aO ?aB ?aS ?aL ?_; (case aP => exact rfl); (case aB => exact (by repeat (first | (with_reducible first | exact HB.out | apply below_alloc | apply pw_below_drewN | apply below_drew1) | exact HB.out))); (case aF => exact (fun _ _ => trivial)); (case aO => exact (by (with_reducible repeat (first | apply Kd.R_alloc | apply Kd.R_drewN | apply Kd.R_drew)); exact HO_4.out)); (case aS => exact (below_size (by repeat (first | (with_reducible first | exact HB.out | apply below_alloc | apply pw_below_drewN | apply below_drew1) | exact HB.out)))); (case aL => have := LMc11.out; omega); intro v326 w13 ho hb hg hat; rw [← Ny325.out] at ho; have n0_ := Aside0.mk (hb); have n1_ := Aside0.mk (ho); clear HB; clear HO_4; have HB := n0_; have HO327 := n1_; clear n0_ n1_; clear ho hb hg hat))
           go_roundg k2
           case measure => have := HJ1.out; have := HK2.out; omega
           case rel => exact ⟨(y325), (wrap64 (x5_2 + 8)), (by first | rfl | (simp; done) | (simp [*]; done)), H', ⟨by have := HJ1.out; have := HK2.out; omega⟩, ⟨by (with_reducible repeat (first | apply Kd.R_alloc | apply Kd.R_drewN | apply Kd.R_drew)); exact HO327.out⟩, ⟨by repeat (first | (with_reducible first | exact HB.out | apply below_alloc | apply pw_below_drewN | apply below_drew1) | exact HB.out)⟩⟩
          ·rw [if_neg c11] at H
           exact absurd H (by simp)
         ·rw [if_neg c9] at H
          exact absurd H (by simp)
        ·rw [if_neg c8] at H
         exact absurd H (by simp)
       ·rw [if_neg c7] at H
        exact absurd H (by simp)
      ·rw [if_neg c6] at H
       have c6b0 : decide (x5_2 < (l0.length : Int)) = false := decide_eq_false c6
       clear c6
       simp only [Option.some.injEq, Prod.mk.injEq] at H
       obtain ⟨rfl, rfl⟩ := H
       go_wp2
       go_ret2
       exact ⟨_, by first | rfl | (simp [errW_none, errW_some] <;> rfl) | (simp [*, errW_none, errW_some] <;> rfl), by (with_reducible repeat (first | apply Kd.R_alloc | apply Kd.R_drewN | apply Kd.R_drew)); exact HO_4.out, by repeat (first | (with_reducible first | exact HB.out | apply below_alloc | apply pw_below_drewN | apply below_drew1) | exact HB.out)⟩

end Go.Proofs.Ytiphbgcmbbfpmaa.Px

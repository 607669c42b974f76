-- Written by myprint.py, a program of this session's, over the kit's print.py; not a text of print.sh's own.
import Derived.Test.YthgeekcobmhbfaaHandBox
import Derived.Test.YthgeekcobmhbfaaHandFive
import Derived.Test.YthgeekcobmhbfaaPx0
import Derived.Test.YthgeekcobmhbfaaPx5
import Derived.Test.YthgeekcobmhbfaaPx6
import Derived.Test.YthgeekcobmhbfaaPx7
import Derived.Test.YthgeekcobmhbfaaPx9
import Derived.Test.YthgeekcobmhbfaaPx11
import Derived.Test.YthgeekcobmhbfaaPx12
namespace Go.Proofs.Ythgeekcobmhbfaa.Px
open Go.RowKit Go.Proofs.YthgeekcobmhbfaaW.PrintWords Go.Proofs.YthgeekcobmhbfaaW.PrintLast Go.Proofs.YthgeekcobmhbfaaW.PrintMore
attribute [local go_sem] max2_int min2_int max_two min_two max_three min_three max_four min_four   -- for this text's walks alone
set_option linter.unusedVariables false
set_option linter.unusedSimpArgs false

/-! ### phaetonref05_last: function 37 -/
mutual
def phaetonref05_last.l0 : Nat → List Int → Int → Int → Int → Int → Option (Int)
  | 0, _, _, _, _, _ => none
  | k + 1, x0, x1, x5, x6, x7 => if x7 < (x0.length : Int) then (if x5 = 5 then (phaetonref05_last.l0 k x0 x1 1 x6 (wrap64 (x7 + 1))) else (if x7 > 0 then (if 0 ≤ (wrap64 (x7 - 1)) then (if (wrap64 (x7 - 1)) < (x0.length : Int) then (if 0 ≤ x7 then (phaetonref05_last.j1 k x0 x1 x5 x6 x7 ((rd x0 (wrap64 (x7 - 1))) == (rd x0 x7))) else (none)) else (none)) else (none)) else (phaetonref05_last.j1 k x0 x1 x5 x6 x7 false))) else (some (x0.length : Int))
def phaetonref05_last.j1 : Nat → List Int → Int → Int → Int → Int → Bool → Option (Int)
  | 0, _, _, _, _, _, _ => none
  | k + 1, x0, x1, x5, x6, x7, x29 => if x29 = true then (if (wrap64 (x6 + 1)) = x1 then (some x7) else (phaetonref05_last.l0 k x0 x1 (wrap64 (x5 + 1)) (wrap64 (x6 + 1)) (wrap64 (x7 + 1)))) else (if (wrap64 (x6 + 1)) = x1 then (some x7) else (phaetonref05_last.l0 k x0 x1 1 (wrap64 (x6 + 1)) (wrap64 (x7 + 1))))
end
def phaetonref05_last.f (k : Nat) (l0 : List Int) (a1 : Int) : Option (Int) := phaetonref05_last.l0 k l0 a1 0 0 0
theorem phaetonref05_last.mono_l : ∀ k, (∀ y0 y1 y2 y3 y4, LeO (phaetonref05_last.l0 k y0 y1 y2 y3 y4) (phaetonref05_last.l0 (k + 1) y0 y1 y2 y3 y4)) ∧ (∀ y0 y1 y2 y3 y4 y5, LeO (phaetonref05_last.j1 k y0 y1 y2 y3 y4 y5) (phaetonref05_last.j1 (k + 1) y0 y1 y2 y3 y4 y5))
  | 0 => ⟨fun _ _ _ _ _ r h => by simp [phaetonref05_last.l0] at h, fun _ _ _ _ _ _ r h => by simp [phaetonref05_last.j1] at h⟩
  | k + 1 => by
    obtain ⟨ih0, ih1⟩ := phaetonref05_last.mono_l k
    refine ⟨?_, ?_⟩
    · intro y0 y1 y2 y3 y4
      unfold phaetonref05_last.l0
      repeat' first
      | (with_reducible exact ih0 _ _ _ _ _)
      | (with_reducible exact ih1 _ _ _ _ _ _)
      | (with_reducible exact LeO.refl _)
      | (with_reducible exact LeO.none _)
      | (with_reducible refine LeO.ite ?_ ?_)
      | (with_reducible refine LeO.bind ?_ (fun _ => ?_))
      | exact ih0 _ _ _ _ _
      | exact ih1 _ _ _ _ _ _
      | exact LeO.none _
      | refine LeO.ite ?_ ?_
      | refine LeO.bind ?_ (fun _ => ?_)
    · intro y0 y1 y2 y3 y4 y5
      unfold phaetonref05_last.j1
      repeat' first
      | (with_reducible exact ih0 _ _ _ _ _)
      | (with_reducible exact ih1 _ _ _ _ _ _)
      | (with_reducible exact LeO.refl _)
      | (with_reducible exact LeO.none _)
      | (with_reducible refine LeO.ite ?_ ?_)
      | (with_reducible refine LeO.bind ?_ (fun _ => ?_))
      | exact ih0 _ _ _ _ _
      | exact ih1 _ _ _ _ _ _
      | exact LeO.none _
      | refine LeO.ite ?_ ?_
      | refine LeO.bind ?_ (fun _ => ?_)
theorem phaetonref05_last.mono : ∀ a0 a1 k, LeO (phaetonref05_last.f k a0 a1) (phaetonref05_last.f (k + 1) a0 a1) := by
  intro a0 a1 k
  obtain ⟨ih0, ih1⟩ := phaetonref05_last.mono_l k
  unfold phaetonref05_last.f
  repeat' first
      | (with_reducible exact ih0 _ _ _ _ _)
      | (with_reducible exact ih1 _ _ _ _ _ _)
      | (with_reducible exact LeO.refl _)
      | (with_reducible exact LeO.none _)
      | (with_reducible refine LeO.ite ?_ ?_)
      | (with_reducible refine LeO.bind ?_ (fun _ => ?_))
      | exact ih0 _ _ _ _ _
      | exact ih1 _ _ _ _ _ _
      | exact LeO.none _
      | refine LeO.ite ?_ ?_
      | refine LeO.bind ?_ (fun _ => ?_)
set_option maxHeartbeats 8000000 in
set_option maxRecDepth 100000 in
theorem phaetonref05_last.calls (k : Nat) (A0 : Option Addr) (c0 : Nat) (l0 : List Int) (a1 : Int) (r : Int) (w : World) (hr0 : Kd.C (Kd.int .i64) w A0 l0.length l0) (hc0 : l0.length ≤ c0) (h : phaetonref05_last.f k l0 a1 = some r) :
    Calls Try.prog 37 #[.slice A0 l0.length c0, .int .i64 a1] w fun e w' => e = .returned (.int .i64 r) ∧ Drawn0 w w' := by
  have HR0 := Aside0.mk hr0
  have HC0 := Aside0.mk hc0
  clear hr0 hc0
  have H : (phaetonref05_last.l0 k l0 a1 0 0 0) = some r := h
  clear h
  have H' := Aside0.mk H
  clear H
  go_enter Try.func37, Try.ntmps37
  go_wp2
  repeat (go_quiet (fail); try go_wp2)
  go_loopg [5, 6, 7] k (fun kq v5 v6 v7 w' => ∃ (x5_1 : Int) (x6_1 : Int) (x7_1 : Int), v5 = .int .i64 x5_1 ∧ v6 = .int .i64 x6_1 ∧ v7 = .int .i64 x7_1 ∧ Aside0 (phaetonref05_last.l0 kq l0 a1 x5_1 x6_1 x7_1 = some r) ∧ Aside0 (kq ≤ k) ∧ Drawn0 w w')
  case atStart => exact ⟨(0), (0), (0), (by first | rfl | (simp; done) | (simp [*]; done)), (by first | rfl | (simp; done) | (simp [*]; done)), (by first | rfl | (simp; done) | (simp [*]; done)), H', ⟨Nat.le_refl _⟩, by repeat (first | exact Drawn0.refl _ | apply Drawn0.step)⟩
  case round =>
    clear H'
    try clear p2
    obtain ⟨x5_1, x6_1, x7_1, rfl, rfl, rfl, HA, HK1, ⟨m1, rfl⟩⟩ := hrel
    cases gk with
    | zero => exact absurd HA.out (by simp [phaetonref05_last.l0])
    | succ k1 =>
      have H := HA.out
      clear HA
      simp only [phaetonref05_last.l0] at H
      by_cases c3 : x7_1 < (l0.length : Int)
      · rw [if_pos c3] at H
        have c3b0 : decide (x7_1 < (l0.length : Int)) = true := decide_eq_true c3
        clear c3
        by_cases c4 : x5_1 = 5
        · rw [if_pos c4] at H
          have c4b0 : (x5_1 == 5) = true := beq_iff_eq.mpr c4
          have c4b1 : (x5_1 != 5) = false := bne_eq_false_iff_eq.mpr c4
          clear c4
          have H' := Aside0.mk H
          clear H
          go_wp2
          repeat (go_quiet (fail); try go_wp2)
          go_roundg k1
          case measure => have := HK1.out; omega
          case rel => exact ⟨(1), (x6_1), (wrap64 (x7_1 + 1)), (by first | rfl | (simp; done) | (simp [*]; done)), (by first | rfl | (simp; done) | (simp [*]; done)), (by first | rfl | (simp; done) | (simp [*]; done)), H', ⟨by have := HK1.out; omega⟩, by repeat (first | exact Drawn0.refl _ | apply Drawn0.step)⟩
        · rw [if_neg c4] at H
          have c4b0 : (x5_1 == 5) = false := beq_eq_false_iff_ne.mpr c4
          have c4b1 : (x5_1 != 5) = true := bne_iff_ne.mpr c4
          have HC5 := Aside0.mk H
          clear H
          go_upto_region 8 with (fail)
          repeat (go_quiet (fail); go_upto_region 8 with (fail))
          go_cut [29] (fun v29 wc => ∃ (kq : Nat) (x29_4 : Bool), v29 = .bool x29_4 ∧ Aside0 (phaetonref05_last.j1 kq l0 a1 x5_1 x6_1 x7_1 x29_4 = some r) ∧ Aside0 (kq ≤ k1) ∧ Drawn0 w wc)
          case first =>
            have H := HC5.out
            clear HC5
            by_cases c6 : x7_1 > 0
            · rw [if_pos c6] at H
              have c6b0 : decide (0 < x7_1) = true := decide_eq_true c6
              clear c6
              (first | rw [c6b0] | (simp only [i64_w, i32_w]; rw [c6b0]) | skip)
              obtain ⟨ji7, hji7⟩ : ∃ j_ : Int, (wrap64 (x7_1 - 1)) = j_ := ⟨_, rfl⟩
              replace H : (if 0 ≤ (ji7) then (if (ji7) < (l0.length : Int) then (if 0 ≤ x7_1 then (phaetonref05_last.j1 k1 l0 a1 x5_1 x6_1 x7_1 ((rd l0 (ji7)) == (rd l0 x7_1))) else (none)) else (none)) else (none)) = some r := by first | (rw [hji7] at H; exact H) | (simp only [hji7] at H ⊢; exact H)
              have hji7w : (IntKind.i64.wrap (x7_1 - 1)) = ji7 := (i64_w _).trans hji7
              by_cases c8 : 0 ≤ (ji7)
              · rw [if_pos c8] at H
                have c8b0 : decide (0 ≤ (ji7)) = true := decide_eq_true c8
                clear c8
                by_cases c9 : (ji7) < (l0.length : Int)
                · rw [if_pos c9] at H
                  have c9b0 : decide ((ji7) < (l0.length : Int)) = true := decide_eq_true c9
                  clear c9
                  by_cases c10 : 0 ≤ x7_1
                  · rw [if_pos c10] at H
                    have c10b0 : decide (0 ≤ x7_1) = true := decide_eq_true c10
                    clear c10
                    have H' := Aside0.mk H
                    clear H
                    have p325 : 0 ≤ ((ji7) : Int) := of_decide_eq_true (by first | (with_reducible assumption) | assumption)
                    have q325 : (ji7) < (l0.length : Int) := of_decide_eq_true (by first | (with_reducible assumption) | assumption)
                    obtain ⟨ad325, e325, hx325_0⟩ := Kd.at_int HR0.out (ji7) p325 q325
                    cases e325
                    replace p325 := eq_true p325
                    replace q325 := eq_true q325
                    have p326 : 0 ≤ (x7_1 : Int) := of_decide_eq_true (by first | (with_reducible assumption) | assumption)
                    have q326 : x7_1 < (l0.length : Int) := of_decide_eq_true (by first | (with_reducible assumption) | assumption)
                    obtain ⟨ad326, e326, hx326_0⟩ := Kd.at_int HR0.out x7_1 p326 q326
                    obtain rfl : ad325 = ad326 := (by injection e326)
                    replace p326 := eq_true p326
                    replace q326 := eq_true q326
                    go_wp2
                    repeat (go_quiet (fail); try go_wp2)
                    go_meet
                    case rel => exact ⟨_, (((rd l0 (ji7)) == (rd l0 x7_1))), (by first | rfl | (simp; done) | (simp only [← hji7] <;> (first | rfl | simp)) | (simp [*]; done)), H', ⟨by have := HK1.out; first | omega | exact Nat.le_refl _⟩, by repeat (first | exact Drawn0.refl _ | apply Drawn0.step)⟩
                  · rw [if_neg c10] at H
                    exact absurd H (by simp)
                · rw [if_neg c9] at H
                  exact absurd H (by simp)
              · rw [if_neg c8] at H
                exact absurd H (by simp)
            · rw [if_neg c6] at H
              have c6b0 : decide (0 < x7_1) = false := decide_eq_false c6
              clear c6
              (first | rw [c6b0] | (simp only [i64_w, i32_w]; rw [c6b0]) | skip)
              have H' := Aside0.mk H
              clear H
              go_wp2
              repeat (go_quiet (fail); try go_wp2)
              go_meet
              case rel => exact ⟨_, (false), (by first | rfl | (simp; done) | (simp [*]; done)), H', ⟨by have := HK1.out; first | omega | exact Nat.le_refl _⟩, by repeat (first | exact Drawn0.refl _ | apply Drawn0.step)⟩
          case rest =>
            clear HC5
            try clear c1
            try clear p2
            try clear c3
            try clear c3b0
            try clear p3
            try clear q3
            try clear hx3
            try clear c4
            try clear c4b0
            try clear c4b1
            try clear c6
            try clear c6b0
            try clear p6
            try clear c8
            try clear c8b0
            try clear c9
            try clear c9b0
            try clear c10
            try clear c10b0
            try clear hx325_0
            try clear hx326_0
            try clear p2
            try clear p325
            try clear p326
            try clear q325
            try clear q326
            obtain ⟨kq, x29_4, rfl, HA, HJ4, ⟨mc4, rfl⟩⟩ := hcut
            cases kq with
            | zero => exact absurd HA.out (by simp [phaetonref05_last.j1])
            | succ kj4 =>
              have H := HA.out
              clear HA
              simp only [phaetonref05_last.j1] at H
              by_cases c11 : x29_4 = true
              · subst c11
                have H1 : (if (wrap64 (x6_1 + 1)) = a1 then (some x7_1) else (phaetonref05_last.l0 kj4 l0 a1 (wrap64 (x5_1 + 1)) (wrap64 (x6_1 + 1)) (wrap64 (x7_1 + 1)))) = some r := by rw [if_pos rfl] at H; exact H
                clear H
                have H := H1
                clear H1
                by_cases c12 : (wrap64 (x6_1 + 1)) = a1
                · rw [if_pos c12] at H
                  have c12b0 : ((wrap64 (x6_1 + 1)) == a1) = true := beq_iff_eq.mpr c12
                  have c12b1 : ((wrap64 (x6_1 + 1)) != a1) = false := bne_eq_false_iff_eq.mpr c12
                  clear c12
                  obtain rfl := Option.some.inj H
                  go_wp2
                  repeat (go_quiet (fail); try go_wp2)
                  go_ret
                  exact ⟨by first | rfl | (simp; done) | (simp [*]; done), by repeat (first | exact Drawn0.refl _ | apply Drawn0.step)⟩
                · rw [if_neg c12] at H
                  have c12b0 : ((wrap64 (x6_1 + 1)) == a1) = false := beq_eq_false_iff_ne.mpr c12
                  have c12b1 : ((wrap64 (x6_1 + 1)) != a1) = true := bne_iff_ne.mpr c12
                  have H' := Aside0.mk H
                  clear H
                  go_wp2
                  repeat (go_quiet (fail); try go_wp2)
                  go_roundg kj4
                  case measure => have := HK1.out; have := HJ4.out; omega
                  case rel => exact ⟨(wrap64 (x5_1 + 1)), (wrap64 (x6_1 + 1)), (wrap64 (x7_1 + 1)), (by first | rfl | (simp; done) | (simp [*]; done)), (by first | rfl | (simp; done) | (simp [*]; done)), (by first | rfl | (simp; done) | (simp [*]; done)), H', ⟨by have := HK1.out; have := HJ4.out; omega⟩, by repeat (first | exact Drawn0.refl _ | apply Drawn0.step)⟩
              · replace c11 := Bool.eq_false_iff.mpr c11
                subst c11
                have H1 : (if (wrap64 (x6_1 + 1)) = a1 then (some x7_1) else (phaetonref05_last.l0 kj4 l0 a1 1 (wrap64 (x6_1 + 1)) (wrap64 (x7_1 + 1)))) = some r := by rw [if_neg (show ¬ (false = true) by decide)] at H; exact H
                clear H
                have H := H1
                clear H1
                by_cases c13 : (wrap64 (x6_1 + 1)) = a1
                · rw [if_pos c13] at H
                  have c13b0 : ((wrap64 (x6_1 + 1)) == a1) = true := beq_iff_eq.mpr c13
                  have c13b1 : ((wrap64 (x6_1 + 1)) != a1) = false := bne_eq_false_iff_eq.mpr c13
                  clear c13
                  obtain rfl := Option.some.inj H
                  go_wp2
                  repeat (go_quiet (fail); try go_wp2)
                  go_ret
                  exact ⟨by first | rfl | (simp; done) | (simp [*]; done), by repeat (first | exact Drawn0.refl _ | apply Drawn0.step)⟩
                · rw [if_neg c13] at H
                  have c13b0 : ((wrap64 (x6_1 + 1)) == a1) = false := beq_eq_false_iff_ne.mpr c13
                  have c13b1 : ((wrap64 (x6_1 + 1)) != a1) = true := bne_iff_ne.mpr c13
                  have H' := Aside0.mk H
                  clear H
                  go_wp2
                  repeat (go_quiet (fail); try go_wp2)
                  go_roundg kj4
                  case measure => have := HK1.out; have := HJ4.out; omega
                  case rel => exact ⟨(1), (wrap64 (x6_1 + 1)), (wrap64 (x7_1 + 1)), (by first | rfl | (simp; done) | (simp [*]; done)), (by first | rfl | (simp; done) | (simp [*]; done)), (by first | rfl | (simp; done) | (simp [*]; done)), H', ⟨by have := HK1.out; have := HJ4.out; omega⟩, by repeat (first | exact Drawn0.refl _ | apply Drawn0.step)⟩
      · rw [if_neg c3] at H
        have c3b0 : decide (x7_1 < (l0.length : Int)) = false := decide_eq_false c3
        clear c3
        obtain rfl := Option.some.inj H
        go_wp2
        repeat (go_quiet (fail); try go_wp2)
        go_ret
        exact ⟨by first | rfl | (simp; done) | (simp [*]; done), by repeat (first | exact Drawn0.refl _ | apply Drawn0.step)⟩

/-! ### phaetonref05_tail: function 38 -/
/-- What the ten behind the sum come to. -/
def tail05T (l h : List Int) (en : Nat) : Bool × Int × Bool × Int × List Int × Int × Int :=
  match tenT l en 10 with
  | some p => (false, 0, false, 0, [], p.1, p.2)
  | none => ((frame_readB h).2.1, (frame_readB h).2.2.1, (frame_readB h).2.2.2.1, (frame_readB h).2.2.2.2.1, (frame_readB h).2.2.2.2.2.1, if l.getD (en + 1) 0 = 1 then 5 else 0, if l.getD (en + 1) 0 = 1 then ((en + 1 : Nat) : Int) else -1)
def tail05G (k : Nat) (l : List Int) (n : Int) (b : List Int × Int × Int) : Option (Bool × Int × Bool × Int × List Int × Int × Int) :=
  if b.2.2 = 0 then
    (if (0 ≤ n ∧ n ≤ (b.1.length : Int) ∧ 0 ≤ b.2.1 ∧ b.2.1 ≤ (l.length : Int) ∧ b.1.length ≤ 1000000) ∧ H.rightB b.1 = true then
      (phaetonref01_Get.f k (b.1.drop n.toNat)).bind fun g => (phaetonref02_Bits.f k (b.1.take n.toNat)).bind fun t =>
        (if g.1 = t then some (tail05T l b.1 b.2.1.toNat) else some (false, 0, false, 0, [], 4, b.2.1 - 1))
     else none)
  else some (false, 0, false, 0, [], b.2.2, b.2.1)
def phaetonref05_tail.f (k : Nat) (l0 : List Int) (a1 : Int) : Option (Bool × Int × Bool × Int × List Int × Int × Int) :=
  if l0.length ≤ 1000000 ∧ H.rightB l0 = true then (phaetonref05_bare.f k l0 (wrap64 (a1 + 15)) true).bind fun b => tail05G k l0 a1 b else none
theorem phaetonref05_tail.mono : ∀ a0 a1 k, LeO (phaetonref05_tail.f k a0 a1) (phaetonref05_tail.f (k + 1) a0 a1) := by
  intro a0 a1 k
  unfold phaetonref05_tail.f tail05G
  refine LeO.ite (LeO.bind (phaetonref05_bare.mono _ _ _ _) (fun b => ?_)) (LeO.none _)
  refine LeO.ite (LeO.ite (LeO.bind (phaetonref01_Get.mono _ _) (fun g => LeO.bind (phaetonref02_Bits.mono _ _) (fun t => LeO.refl _))) (LeO.none _)) (LeO.refl _)
/-- The result's box is as it was made; the bits that were had. -/
def tail05_I (w W : World) (A : Option Addr) (h : List Int) : Prop := W.heap[w.heap.size]? = some (.cells r4_zs 24 (0, 0)) ∧ Below w.heap.size w W ∧ Kd.C (Kd.int .i64) W A h.length h
theorem tail05_I.drewN {w W : World} {A : Option Addr} {h : List Int} (hI : tail05_I w W A h) (n : Nat) : tail05_I w (W.drewN n) A h := ⟨hI.1, pw_below_drewN hI.2.1 n, Kd.C_drewN hI.2.2 n⟩
theorem tail05_read {w W : World} {A : Option Addr} {c : Nat} {h : List Int} (hI : tail05_I w W A h) (hc : h.length ≤ c) (hn : h.length ≤ 1000000) (hb : H.rightB h = true) :
    Calls Try.prog 36 #[.slice A h.length c] W fun e W' => ∃ v4 : Value, e = .returned (.tuple #[.agg #[.bool (frame_readB h).2.1, .int .i64 (frame_readB h).2.2.1, .bool (frame_readB h).2.2.2.1, .int .i64 (frame_readB h).2.2.2.2.1, v4], .int .i64 ((frame_readB h).2.2.2.2.2.2 : Int), .int .i64 (frame_readB h).1]) ∧ Kd.R (Kd.int .u8) 5 W' w.heap.size (fun _ => True) v4 (frame_readB h).2.2.2.2.2.1 ∧ W'.heap[w.heap.size]? = some (.cells r4_zs 24 (0, 0)) ∧ Below w.heap.size w W' := by
  refine (phaetonref04_Read.calls A c h _ _ _ _ _ _ _ W hI.2.2 hc (by unfold phaetonref04_Read.f; rw [if_pos hn, if_pos hb])).mono ?_
  rintro e W' ⟨v4, rfl, hR, hB⟩
  exact ⟨v4, rfl, Kd.R_lower hR hI.2.1.size, blk_below hI.1 hB, below_then hI.2.1 hI.2.1.size hB⟩
set_option maxHeartbeats 3200000 in
set_option maxRecDepth 100000 in
theorem tail05_at (k : Nat) (A0 : Option Addr) (c0 : Nat) (l : List Int) (n : Int) (h : List Int) (at_ f : Int) (r : Bool × Int × Bool × Int × List Int × Int × Int) (w : World) (hr : Kd.C (Kd.int .i64) w A0 l.length l) (hc : l.length ≤ c0) (hn : l.length ≤ 1000000) (hlb : H.rightB l = true) (hb : phaetonref05_bare.f k l (wrap64 (n + 15)) true = some (h, at_, f)) (hg : tail05G k l n (h, at_, f) = some r) :
    Calls Try.prog 38 #[.slice A0 l.length c0, .int .i64 n] w fun e w' => ∃ v4 : Value, e = .returned (.tuple #[.agg #[.bool r.1, .int .i64 r.2.1, .bool r.2.2.1, .int .i64 r.2.2.2.1, v4], .int .i64 r.2.2.2.2.2.1, .int .i64 r.2.2.2.2.2.2]) ∧ Kd.R (Kd.int .u8) 5 w' w.heap.size (fun _ => True) v4 r.2.2.2.2.1 ∧ Below w.heap.size w w' := by
  have hu := Try.underlying24
  obtain ⟨n15, h15⟩ : ∃ x, wrap64 (n + 15) = x := ⟨_, rfl⟩
  have h15w : IntKind.i64.wrap (n + 15) = n15 := (i64_w _).trans h15
  rw [h15] at hb
  obtain ⟨W1, hW1⟩ : ∃ W1, W1 = w.alloc (.cells r4_zs 24 (0, 0)) := ⟨_, rfl⟩
  have hz1 : W1.heap.size = w.heap.size + 1 := by rw [hW1, World.size_alloc]
  have hb1 : Below w.heap.size w W1 := hW1 ▸ below_alloc (Below.refl _ _) _
  have k0 : W1.heap[w.heap.size]? = some (.cells r4_zs 24 (0, 0)) := hW1 ▸ blk_new _ _
  have hs : Calls Try.prog 35 #[.slice A0 l.length c0, .int .i64 n15, .bool true] W1 fun e w' => ∃ v0 : Value, e = .returned (.tuple #[v0, .int .i64 at_, .int .i64 f]) ∧ Kd.R (Kd.int .i64) 3 w' w.heap.size (fun _ => True) v0 h ∧ w'.heap[w.heap.size]? = some (.cells r4_zs 24 (0, 0)) ∧ Below w.heap.size w w' := by
    refine (phaetonref05_bare.calls k A0 c0 l n15 true h at_ f W1 (Kd.C_below hr hb1) hc hb).mono ?_
    rintro e W' ⟨v0, rfl, hR, hB⟩
    exact ⟨v0, rfl, Kd.R_lower hR hb1.size, blk_below k0 hB, below_then hb1 hb1.size hB⟩
  rw [hW1] at hs
  have HS := Aside0.mk hs
  have HR := Aside0.mk hr
  have HN := Aside0.mk hn
  have HLB := Aside0.mk hlb
  clear hs hr hn hlb hb1 hz1 k0 hW1 W1 hb
  by_cases hf : f = 0
  · obtain ⟨⟨m, nn, hm⟩, hgo⟩ : ∃ _ : (∃ m : Nat, ∃ en : Nat, n = (m : Int) ∧ at_ = (en : Int) ∧ m ≤ h.length ∧ en ≤ l.length ∧ h.length ≤ 1000000 ∧ H.rightB h = true), (phaetonref01_Get.f k (h.drop n.toNat)).bind (fun g => (phaetonref02_Bits.f k (h.take n.toNat)).bind fun t => (if g.1 = t then some (tail05T l h at_.toNat) else some (false, 0, false, 0, [], 4, at_ - 1))) = some r := by
      unfold tail05G at hg
      rw [if_pos hf] at hg
      split at hg
      case isFalse => cases hg
      case isTrue hx =>
        obtain ⟨⟨h1, h2, h3, h4, h5⟩, h6⟩ := hx
        dsimp only at h1 h2 h3 h4 h5 h6 hg
        exact ⟨⟨n.toNat, at_.toNat, by omega, by omega, by omega, by omega, h5, h6⟩, hg⟩
    obtain ⟨rfl, rfl, hmh, hen, hhl, hrb⟩ := hm
    clear hg
    rw [Int.toNat_natCast, Int.toNat_natCast] at hgo
    obtain ⟨⟨g, g2⟩, hg1, hgo⟩ := Option.bind_eq_some_iff.mp hgo
    obtain ⟨t, ht1, hgo⟩ := Option.bind_eq_some_iff.mp hgo
    have HGO := Aside0.mk hgo
    have HG1 := Aside0.mk hg1
    have HT1 := Aside0.mk ht1
    have HRB := Aside0.mk hrb
    clear hgo hg1 ht1 hrb
    have q0 : (f == 0) = true := beq_iff_eq.mpr hf
    have q1 : (f != 0) = false := bne_eq_false_iff_eq.mpr hf
    clear hf
    go_enter Try.func38, Try.ntmps38
    go_wp2_with fail
    refine HS.out.mono ?_
    clear h15 h15w
    rintro e w1 ⟨v0, rfl, hR1, hZ1, hB1⟩
    obtain ⟨Ao, co, rfl⟩ := Kd.R_slice hR1
    have hroom : h.length ≤ co := (Kd.R_reads' hR1).2.1
    have hC : Kd.C (Kd.int .i64) w1 Ao h.length h := (Kd.R_reads' hR1).2.2
    have HI1 : Aside0 (tail05_I w w1 Ao h) := ⟨⟨hZ1, hB1, hC⟩⟩
    obtain ⟨i0, hi0, _, hsz0, _⟩ := info_parts info3
    have hcutD := cut_from (P := Try.prog) 25 3 .i64 Try.underlying25 hi0 1 hsz0 Ao h.length co (m : Int) (by omega) (by omega)
    have hcutT := cut_to (P := Try.prog) 25 3 .i64 Try.underlying25 hi0 Ao h.length co (m : Int) (by omega) (by omega) hroom
    rw [Int.toNat_natCast] at hcutD hcutT
    obtain ⟨y, hy⟩ : ∃ y, y = h.drop m := ⟨_, rfl⟩
    obtain ⟨z, hz⟩ : ∃ z, z = h.take m := ⟨_, rfl⟩
    have hyl : y.length = h.length - m := by rw [hy, List.length_drop]
    have hzl : z.length = m := by rw [hz, List.length_take]; omega
    obtain ⟨AD, hAD⟩ : ∃ A1, A1 = (if co = m then Ao else (Ao : Option Addr).map (·.add (m * 1))) := ⟨_, rfl⟩
    obtain ⟨cD, hcD⟩ : ∃ c1, c1 = co - m := ⟨_, rfl⟩
    have hrD : Kd.C (Kd.int .i64) w1 AD y.length y := by
      have := Kd.C_drop (m := m) (c := co) hC (by omega) hroom
      rw [hAD, hy]; exact this
    have hcd : y.length ≤ cD := by omega
    rw [← hAD, ← hyl, ← hcD] at hcutD
    have hGet : Calls Try.prog 54 #[.slice AD y.length cD] w1 fun e W' => e = .returned (.tuple #[.int .i64 g, .bool g2]) ∧ tail05_I w W' Ao h := by
      refine (phaetonref01_Get.calls k AD cD y g g2 w1 hrD hcd (by rw [hy]; exact HG1.out)).mono ?_
      rintro e W' ⟨rfl, hd⟩
      obtain ⟨⟨n, rfl⟩⟩ := hd
      exact ⟨rfl, HI1.out.drewN n⟩
    have hBits : ∀ W, tail05_I w W Ao h → Calls Try.prog 32 #[.slice Ao m co] W fun e W' => e = .returned (.int .i64 t) ∧ tail05_I w W' Ao h := fun W hI => by
      have hzC : Kd.C (Kd.int .i64) W Ao z.length z := by
        have := Kd.C_take (m := m) hI.2.2 (by omega)
        rw [hz]; exact this
      have hc := phaetonref02_Bits.calls k Ao co z t W hzC (by omega) (by rw [hz]; exact HT1.out)
      rw [hzl] at hc
      refine hc.mono ?_
      rintro e W' ⟨rfl, hd⟩
      obtain ⟨⟨n, rfl⟩⟩ := hd
      exact ⟨rfl, hI.drewN n⟩
    have HGet := Aside0.mk hGet
    have HBits := Aside0.mk hBits
    have q2 : ((m : Int) ≤ (h.length : Int)) = True := eq_true (by omega)
    have q3 : ((0 : Int) ≤ (m : Int)) = True := eq_true (by omega)
    have HHL := Aside0.mk hhl
    have HHC := Aside0.mk hroom
    clear hGet hBits hcD hAD hrD hcd hy hz hyl hzl hZ1 hB1 hC hR1 HS hhl hmh hroom
    go_wp2_with fail
    refine HGet.out.mono ?_
    rintro e w2 ⟨rfl, hI2⟩
    have HI2 := Aside0.mk hI2
    clear hI2
    go_wp2_with fail
    refine (HBits.out _ HI2.out).mono ?_
    rintro e w3 ⟨rfl, hI3⟩
    have HI3 := Aside0.mk hI3
    have HZ3 := Aside0.mk hI3.1
    have HB3 := Aside0.mk hI3.2.1
    clear hI3 HI2 HI1 HGet HBits
    by_cases hgt : g = t
    · have hgo := HGO.out
      (try dsimp only at hgo)
      rw [if_pos hgt] at hgo
      have hr := (Option.some.inj hgo).symm
      have HRR := Aside0.mk hr
      have q4 : (g == t) = true := beq_iff_eq.mpr hgt
      have q5 : (g != t) = false := bne_eq_false_iff_eq.mpr hgt
      have HEN := Aside0.mk hen
      clear hgo hr hgt hen HGO
      go_wp2_with fail
      go_loopw [12] (fun v wr => ∃ j : Nat, j ≤ 10 ∧ v = .int .i64 (j : Int) ∧ wr = w3 ∧ nn + j ≤ l.length ∧ Aside0 (tenT l nn 10 = tenT l nn (10 - j))) (fun v _ => 10 - (intOf v).toNat)
      case atStart => exact ⟨0, by omega, rfl, rfl, HEN.out, ⟨rfl⟩⟩
      case round =>
        obtain ⟨j, hj, rfl, rfl, hjl, HQ⟩ := hrel
        have hn := HN.out
        have HRr := Kd.C_below HR.out HB3.out
        by_cases hlt : j < 10
        · obtain ⟨a, ha⟩ : ∃ a, a = nn + j := ⟨_, rfl⟩
          have e1 : wrap64 ((nn : Int) + (j : Int)) = (a : Int) := by unfold wrap64; omega
          have e3 : wrap64 ((j : Int) + 1) = ((j + 1 : Nat) : Int) := by unfold wrap64; omega
          have q6 : ((j : Int) < 10) = True := eq_true (by omega)
          have hk : 10 - j = (9 - j) + 1 := by omega
          have hk2 : nn + (9 - (9 - j)) = a := by omega
          have hk3 : 9 - (9 - j) = j := by omega
          by_cases hal : a = l.length
          · have HT : Aside0 (r = (false, 0, false, 0, [], 1, (l.length : Int))) := ⟨by
              have h10 : tenT l nn 10 = some (1, (l.length : Int)) := by rw [HQ.out, hk, tenT, hk2, if_pos hal]
              rw [HRR.out]; unfold tail05T; rw [h10]⟩
            have q7 : ((l.length : Int) ≤ (a : Int)) = True := eq_true (by omega)
            have q8 : ((a : Int) ≥ (l.length : Int)) = True := eq_true (by omega)
            clear hk hk2 hk3 hal ha HQ hjl hlt hj HRr HRR
            go_wp2_with (first | ((with_reducible refine gate_store (t := 24) (p := 4) rfl ?_); refine HW.store_box' rfl rfl 24 _ _ rfl rfl rfl HZ3.out rfl (by kernel_rfl) (by intro q hq; simp only [r4_zs, List.mem_cons, List.not_mem_nil, or_false] at hq; rcases hq with rfl | rfl | rfl | rfl | rfl <;> rfl) ?_; intro wz hk hg; have HBz := Aside0.mk ((HB3.out).grown hg (HB3.out).size (fun k he => by injection he with he; omega)); have HZz := Aside0.mk hk; clear hk hg))
            (try rw [Exit.noGoto_ret])
            refine bodyPost_ret (results_ctt rfl _ _ w.heap.size 24 r4_zs (0, 0) _ rfl HZz.out Try.underlying24 rfl (by kernel_rfl)) rfl ?_
            rw [HT.out]
            exact ⟨.slice none 0 0, rfl, Kd.R_nil _ _ _ _ _, HBz.out⟩
          · have hlt2 : a < l.length := by omega
            obtain ⟨ad, eA, hx⟩ := Kd.at_int HRr (a : Int) (by omega) (by omega)
            subst eA
            rw [Int.toNat_natCast] at hx
            have q7 : ((l.length : Int) ≤ (a : Int)) = False := eq_false (by omega)
            have q8 : ((a : Int) ≥ (l.length : Int)) = False := eq_false (by omega)
            have b1 : ((a : Int) < (l.length : Int)) = True := eq_true (by omega)
            have hrd : rd l (a : Int) = l.getD a 0 := by simp [rd]
            by_cases hz1 : ¬ j = 1 ∧ l.getD a 0 = 0
            · have HT : Aside0 (r = (false, 0, false, 0, [], 3, (a : Int))) := ⟨by
                have h10 : tenT l nn 10 = some (3, (a : Int)) := by rw [HQ.out, hk, tenT, hk2, hk3, if_neg hal, if_pos hz1]
                rw [HRR.out]; unfold tail05T; rw [h10]⟩
              have p3 : ((j : Int) = 1) = False := eq_false (by omega)
              have p4 : ((j : Int) == 1) = false := beq_eq_false_iff_ne.mpr (by omega)
              have p6 : ((j : Int) != 1) = true := bne_iff_ne.mpr (by omega)
              have p5 : rd l (a : Int) = 0 := hrd.trans hz1.2
              have p7 : (rd l (a : Int) != 1) = true := bne_iff_ne.mpr (by rw [p5]; decide)
              clear hk hk2 hk3 hal ha HQ hjl hlt hj HRr hz1 hrd hlt2 HRR
              go_wp2_with (first | ((with_reducible refine gate_store (t := 24) (p := 4) rfl ?_); refine HW.store_box' rfl rfl 24 _ _ rfl rfl rfl HZ3.out rfl (by kernel_rfl) (by intro q hq; simp only [r4_zs, List.mem_cons, List.not_mem_nil, or_false] at hq; rcases hq with rfl | rfl | rfl | rfl | rfl <;> rfl) ?_; intro wz hk hg; have HBz := Aside0.mk ((HB3.out).grown hg (HB3.out).size (fun k he => by injection he with he; omega)); have HZz := Aside0.mk hk; clear hk hg))
              (try rw [Exit.noGoto_ret])
              refine bodyPost_ret (results_ctt rfl _ _ w.heap.size 24 r4_zs (0, 0) _ rfl HZz.out Try.underlying24 rfl (by kernel_rfl)) rfl ?_
              rw [HT.out]
              refine ⟨.slice none 0 0, ?_, Kd.R_nil _ _ _ _ _, HBz.out⟩
              first | rfl | (rw [← e1]; rfl)
            · have HQ2 : Aside0 (tenT l nn 10 = tenT l nn (10 - (j + 1))) := ⟨by rw [HQ.out, hk, tenT, hk2, hk3, if_neg hal, if_neg hz1, show 10 - (j + 1) = 9 - j by omega]⟩
              have HJ : Aside0 (nn + (j + 1) ≤ l.length) := ⟨by omega⟩
              by_cases hj1 : j = 1
              · have p3 : ((j : Int) = 1) = True := eq_true (by omega)
                have p4 : ((j : Int) == 1) = true := beq_iff_eq.mpr (by omega)
                have p6 : ((j : Int) != 1) = false := bne_eq_false_iff_eq.mpr (by omega)
                clear hk hk2 hk3 hal ha HQ hjl hj HRr hz1 hrd hlt2 hj1
                go_wp2_with fail
                go_roundw
                case rel => exact ⟨j + 1, by omega, by first | rfl | exact congrArg _ e3 | simp, by first | rfl | trivial, HJ.out, HQ2⟩
                case measure => simp [intOf]; omega
              · have p3 : ((j : Int) = 1) = False := eq_false (by omega)
                have p4 : ((j : Int) == 1) = false := beq_eq_false_iff_ne.mpr (by omega)
                have p6 : ((j : Int) != 1) = true := bne_iff_ne.mpr (by omega)
                have p5 : rd l (a : Int) = 1 := by
                  rcases H.rightB_mem HLB.out _ (fb_rd_mem hlt2) with h0 | h0
                  · exact absurd ⟨hj1, h0⟩ hz1
                  · exact hrd.trans h0
                have p7 : (rd l (a : Int) != 1) = false := bne_eq_false_iff_eq.mpr p5
                clear hk hk2 hk3 hal ha HQ hjl hj HRr hz1 hrd hlt2 hj1
                go_wp2_with fail
                go_roundw
                case rel => exact ⟨j + 1, by omega, by first | rfl | exact congrArg _ e3 | simp, by first | rfl | trivial, HJ.out, HQ2⟩
                case measure => simp [intOf]; omega
        · obtain rfl : j = 10 := by omega
          have h10 : tenT l nn 10 = none := by rw [HQ.out]; rfl
          obtain ⟨a, ha⟩ : ∃ a, a = nn + 1 := ⟨_, rfl⟩
          have e1 : wrap64 ((nn : Int) + 1) = (a : Int) := by unfold wrap64; omega
          obtain ⟨ad, eA, hx0⟩ := Kd.at_int HR.out (a : Int) (by omega) (by omega)
          subst eA
          rw [Int.toNat_natCast] at hx0
          have HX0 := Aside0.mk hx0
          have b1 : ((a : Int) < (l.length : Int)) = True := eq_true (by omega)
          have hrd : rd l (a : Int) = l.getD a 0 := by simp [rd]
          have hread := tail05_read HI3.out HHC.out HHL.out HRB.out
          obtain ⟨F, hF⟩ : ∃ F, F = frame_readB h := ⟨_, rfl⟩
          rw [← hF] at hread
          have HREAD := Aside0.mk hread
          have hr2 := HRR.out
          unfold tail05T at hr2
          rw [h10, ← hF, ← ha] at hr2
          dsimp only at hr2
          by_cases hz1 : rd l (a : Int) = 1
          · have HT : Aside0 (r = (F.2.1, F.2.2.1, F.2.2.2.1, F.2.2.2.2.1, F.2.2.2.2.2.1, 5, (a : Int))) := ⟨by rw [hr2, if_pos (hrd.symm.trans hz1), if_pos (hrd.symm.trans hz1)]⟩
            clear h10 ha HRr hrd hjl hj hF hread hr2 hx0 HRR HQ
            go_wp2_with fail
            refine HREAD.out.mono ?_
            rintro e w4 ⟨v4, rfl, hV4, hZ4, hB4⟩
            have HV4 := Aside0.mk hV4
            have HZ4 := Aside0.mk hZ4
            have HB4 := Aside0.mk hB4
            have HC1 : Aside0 (∀ q ∈ (#[.bool F.2.1, .int .i64 F.2.2.1, .bool F.2.2.2.1, .int .i64 F.2.2.2.2.1, v4] : Array Value).toList, q.oneCell' = true) := ⟨by
              obtain ⟨A, c, e⟩ := Kd.R_slice hV4
              subst e
              intro q hq; simp only [List.mem_cons, List.not_mem_nil, or_false] at hq; rcases hq with rfl | rfl | rfl | rfl | rfl <;> rfl⟩
            clear hV4 hZ4 hB4 HREAD
            go_wp2_with (first | ((with_reducible refine gate_store (t := 24) (p := 13) rfl ?_); refine HW.store_box' rfl rfl 24 _ _ rfl rfl rfl (blk_new _ _) rfl (by kernel_rfl) HC1.out ?_; intro wy hk hg; have HB5 := Aside0.mk ((below_alloc HB4.out _).grown hg (below_alloc HB4.out _).size (fun k he => by injection he with he; have := HB4.out.size; omega)); have HZ5 := Aside0.mk (blk_grown (blk_alloc HZ4.out _) hg (fun e => by injection e with e; have := blk_lt HZ4.out; omega)); have HV5 := Aside0.mk (frame_R_far (Kd.R_below HV4.out (below_alloc (Below.refl _ _) _)) hg (blk_new _ _)); have hx := (HB5.out.cell (World.block_lt_of_cell? w _ HX0.out)).trans HX0.out; have HY := Aside0.mk hk; clear hk hg HB4 HZ4 HV4) | ((with_reducible refine gate_dst (N := 85) rfl ?_); refine wpList_load_row rfl 24 _ rfl _ rfl _ _ (0, 0) _ HY.out Try.underlying24 rfl (by kernel_rfl) ?_) | ((with_reducible refine gate_store (t := 24) (p := 4) rfl ?_); refine HW.store_box' rfl rfl 24 _ _ rfl rfl rfl HZ5.out rfl (by kernel_rfl) HC1.out ?_; intro wz hk hg; have HBz := Aside0.mk ((HB5.out).grown hg (HB5.out).size (fun k he => by injection he with he; omega)); have HZz := Aside0.mk hk; have HVz := Aside0.mk (frame_R_far HV5.out hg HZ5.out); clear hk hg))
            (try rw [Exit.noGoto_ret])
            refine bodyPost_ret (results_ctt rfl _ _ w.heap.size 24 _ (0, 0) _ rfl HZz.out Try.underlying24 rfl (by kernel_rfl)) rfl ?_
            rw [HT.out]
            refine ⟨v4, ?_, HVz.out, HBz.out⟩
            first | rfl | (rw [← e1]; rfl)
          · have HT : Aside0 (r = (F.2.1, F.2.2.1, F.2.2.2.1, F.2.2.2.2.1, F.2.2.2.2.2.1, 0, -1)) := ⟨by rw [hr2, if_neg (fun h => hz1 (hrd.trans h)), if_neg (fun h => hz1 (hrd.trans h))]⟩
            have p5 : (rd l (a : Int) == 1) = false := beq_eq_false_iff_ne.mpr hz1
            clear h10 ha HRr hrd hjl hj hF hread hr2 hx0 HRR HQ
            go_wp2_with fail
            refine HREAD.out.mono ?_
            rintro e w4 ⟨v4, rfl, hV4, hZ4, hB4⟩
            have HV4 := Aside0.mk hV4
            have HZ4 := Aside0.mk hZ4
            have HB4 := Aside0.mk hB4
            have HC1 : Aside0 (∀ q ∈ (#[.bool F.2.1, .int .i64 F.2.2.1, .bool F.2.2.2.1, .int .i64 F.2.2.2.2.1, v4] : Array Value).toList, q.oneCell' = true) := ⟨by
              obtain ⟨A, c, e⟩ := Kd.R_slice hV4
              subst e
              intro q hq; simp only [List.mem_cons, List.not_mem_nil, or_false] at hq; rcases hq with rfl | rfl | rfl | rfl | rfl <;> rfl⟩
            clear hV4 hZ4 hB4 HREAD
            go_wp2_with (first | ((with_reducible refine gate_store (t := 24) (p := 13) rfl ?_); refine HW.store_box' rfl rfl 24 _ _ rfl rfl rfl (blk_new _ _) rfl (by kernel_rfl) HC1.out ?_; intro wy hk hg; have HB5 := Aside0.mk ((below_alloc HB4.out _).grown hg (below_alloc HB4.out _).size (fun k he => by injection he with he; have := HB4.out.size; omega)); have HZ5 := Aside0.mk (blk_grown (blk_alloc HZ4.out _) hg (fun e => by injection e with e; have := blk_lt HZ4.out; omega)); have HV5 := Aside0.mk (frame_R_far (Kd.R_below HV4.out (below_alloc (Below.refl _ _) _)) hg (blk_new _ _)); have hx := (HB5.out.cell (World.block_lt_of_cell? w _ HX0.out)).trans HX0.out; have HY := Aside0.mk hk; clear hk hg HB4 HZ4 HV4) | ((with_reducible refine gate_dst (N := 88) rfl ?_); refine wpList_load_row rfl 24 _ rfl _ rfl _ _ (0, 0) _ HY.out Try.underlying24 rfl (by kernel_rfl) ?_) | ((with_reducible refine gate_store (t := 24) (p := 4) rfl ?_); refine HW.store_box' rfl rfl 24 _ _ rfl rfl rfl HZ5.out rfl (by kernel_rfl) HC1.out ?_; intro wz hk hg; have HBz := Aside0.mk ((HB5.out).grown hg (HB5.out).size (fun k he => by injection he with he; omega)); have HZz := Aside0.mk hk; have HVz := Aside0.mk (frame_R_far HV5.out hg HZ5.out); clear hk hg))
            (try rw [Exit.noGoto_ret])
            refine bodyPost_ret (results_ctt rfl _ _ w.heap.size 24 _ (0, 0) _ rfl HZz.out Try.underlying24 rfl (by kernel_rfl)) rfl ?_
            rw [HT.out]
            refine ⟨v4, ?_, HVz.out, HBz.out⟩
            first | rfl | (rw [← e1]; rfl)
    · have hgo := HGO.out
      (try dsimp only at hgo)
      rw [if_neg hgt] at hgo
      have hr := (Option.some.inj hgo).symm
      have q4 : (g == t) = false := beq_eq_false_iff_ne.mpr hgt
      have q5 : (g != t) = true := bne_iff_ne.mpr hgt
      have HRR := Aside0.mk hr
      obtain ⟨b, hb⟩ : ∃ b : Int, b = (nn : Int) - 1 := ⟨_, rfl⟩
      rw [← hb] at HRR
      have e1 : wrap64 ((nn : Int) - 1) = b := by have := HN.out; unfold wrap64; omega
      have e2 : wrap64 b = b := by have := HN.out; unfold wrap64; omega
      clear hb
      clear hgo hr hgt HGO
      go_wp2_with (first | ((with_reducible refine gate_store (t := 24) (p := 4) rfl ?_); refine HW.store_box' rfl rfl 24 _ _ rfl rfl rfl HZ3.out rfl (by kernel_rfl) (by intro q hq; simp only [r4_zs, List.mem_cons, List.not_mem_nil, or_false] at hq; rcases hq with rfl | rfl | rfl | rfl | rfl <;> rfl) ?_; intro wz hk hg; have HBz := Aside0.mk ((HB3.out).grown hg (HB3.out).size (fun k he => by injection he with he; omega)); have HZz := Aside0.mk hk; clear hk hg))
      (try rw [Exit.noGoto_ret])
      refine bodyPost_ret (results_ctt rfl _ _ w.heap.size 24 r4_zs (0, 0) _ rfl HZz.out Try.underlying24 rfl (by kernel_rfl)) rfl ?_
      rw [HRR.out]
      refine ⟨.slice none 0 0, ?_, Kd.R_nil _ _ _ _ _, HBz.out⟩
      first | rfl | (rw [← e1]; rfl) | (rw [← e2]; rfl)
  · have HRR : Aside0 (r = (false, 0, false, 0, [], f, at_)) := ⟨by unfold tail05G at hg; rw [if_neg hf] at hg; exact (Option.some.inj hg).symm⟩
    have q0 : (f == 0) = false := beq_eq_false_iff_ne.mpr hf
    have q1 : (f != 0) = true := bne_iff_ne.mpr hf
    clear hf hg
    go_enter Try.func38, Try.ntmps38
    go_wp2_with fail
    refine HS.out.mono ?_
    clear h15 h15w
    rintro e w1 ⟨v0, rfl, hR1, hZ1, hB1⟩
    have HZ1 := Aside0.mk hZ1
    have HB1 := Aside0.mk hB1
    clear hZ1 hB1 hR1 HS
    go_wp2_with (first | ((with_reducible refine gate_store (t := 24) (p := 4) rfl ?_); refine HW.store_box' rfl rfl 24 _ _ rfl rfl rfl HZ1.out rfl (by kernel_rfl) (by intro q hq; simp only [r4_zs, List.mem_cons, List.not_mem_nil, or_false] at hq; rcases hq with rfl | rfl | rfl | rfl | rfl <;> rfl) ?_; intro wz hk hg; have HBz := Aside0.mk ((HB1.out).grown hg (HB1.out).size (fun k he => by injection he with he; omega)); have HZz := Aside0.mk hk; clear hk hg))
    (try rw [Exit.noGoto_ret])
    refine bodyPost_ret (results_ctt rfl _ _ w.heap.size 24 r4_zs (0, 0) _ rfl HZz.out Try.underlying24 rfl (by kernel_rfl)) rfl ?_
    rw [HRR.out]
    exact ⟨.slice none 0 0, rfl, Kd.R_nil _ _ _ _ _, HBz.out⟩
theorem phaetonref05_tail.calls (k : Nat) (A0 : Option Addr) (c0 : Nat) (l0 : List Int) (a1 : Int) (r1 : Bool) (r2 : Int) (r3 : Bool) (r4 : Int) (r5 : List Int) (r6 : Int) (r7 : Int) (w : World) (hr0 : Kd.C (Kd.int .i64) w A0 l0.length l0) (hc0 : l0.length ≤ c0) (h : phaetonref05_tail.f k l0 a1 = some (r1, r2, r3, r4, r5, r6, r7)) :
    Calls Try.prog 38 #[.slice A0 l0.length c0, .int .i64 a1] w fun e w' => ∃ v4_ : Value, e = .returned (.tuple #[.agg #[.bool r1, .int .i64 r2, .bool r3, .int .i64 r4, v4_], .int .i64 r6, .int .i64 r7]) ∧ Kd.R (Kd.int .u8) 5 w' w.heap.size (fun _ => True) v4_ r5 ∧ Below w.heap.size w w' := by
  unfold phaetonref05_tail.f at h
  split at h
  case isFalse => cases h
  case isTrue hl =>
    obtain ⟨⟨b, a, f⟩, hb, hg⟩ := Option.bind_eq_some_iff.mp h
    exact tail05_at k A0 c0 l0 a1 b a f _ w hr0 hc0 hl.1 hl.2 hb hg

/-! ### phaetonref05_Read: function 22 -/
mutual
def phaetonref05_Read.l0 : Nat → List Int → Int → Option (Bool × Int × Bool × Int × List Int × Int × Int)
  | 0, _, _ => none
  | k + 1, x0, x5 => (phaetonref05_bare.f k x0 x5 false).bind fun bt328 => (if bt328.2.2 = 0 then ((phaetonref04_Read.f bt328.1).bind fun bt333 => (if bt333.2.2.2.2.2.2 = 42 then (phaetonref05_Read.j1 k x0 x5 bt333.2.2.2.2.2.1 bt333.2.2.2.2.2.2 true) else (phaetonref05_Read.j1 k x0 x5 bt333.2.2.2.2.2.1 bt333.2.2.2.2.2.2 (bt333.2.2.2.2.2.2 == 41)))) else (some (false, 0, false, 0, ([] : List Int), bt328.2.2, bt328.2.1)))
def phaetonref05_Read.j1 : Nat → List Int → Int → Int → Int → Bool → Option (Bool × Int × Bool × Int × List Int × Int × Int)
  | 0, _, _, _, _, _ => none
  | k + 1, x0, x5, x10, x11, x38 => if x38 = true then ((phaetonref05_last.f k x0 x5).bind fun t343 => (some (false, 0, false, 0, ([] : List Int), 3, t343))) else (if x11 = 0 then ((phaetonref05_tail.f k x0 x10).bind fun bt344 => (some (bt344.1, bt344.2.1, bt344.2.2.1, bt344.2.2.2.1, bt344.2.2.2.2.1, bt344.2.2.2.2.2.1, bt344.2.2.2.2.2.2))) else (phaetonref05_Read.l0 k x0 (wrap64 (x5 + 1))))
end
def phaetonref05_Read.f (k : Nat) (l0 : List Int) : Option (Bool × Int × Bool × Int × List Int × Int × Int) := phaetonref05_Read.l0 k l0 1
theorem phaetonref05_Read.mono_l : ∀ k, (∀ y0 y1, LeO (phaetonref05_Read.l0 k y0 y1) (phaetonref05_Read.l0 (k + 1) y0 y1)) ∧ (∀ y0 y1 y2 y3 y4, LeO (phaetonref05_Read.j1 k y0 y1 y2 y3 y4) (phaetonref05_Read.j1 (k + 1) y0 y1 y2 y3 y4))
  | 0 => ⟨fun _ _ r h => by simp [phaetonref05_Read.l0] at h, fun _ _ _ _ _ r h => by simp [phaetonref05_Read.j1] at h⟩
  | k + 1 => by
    obtain ⟨ih0, ih1⟩ := phaetonref05_Read.mono_l k
    refine ⟨?_, ?_⟩
    · intro y0 y1
      unfold phaetonref05_Read.l0
      repeat' first
      | (with_reducible exact ih0 _ _)
      | (with_reducible exact ih1 _ _ _ _ _)
      | (with_reducible exact phaetonref05_bare.mono _ _ _ _)
      | (with_reducible exact phaetonref05_last.mono _ _ _)
      | (with_reducible exact phaetonref05_tail.mono _ _ _)
      | (with_reducible exact LeO.refl _)
      | (with_reducible exact LeO.none _)
      | (with_reducible refine LeO.ite ?_ ?_)
      | (with_reducible refine LeO.bind ?_ (fun _ => ?_))
      | exact ih0 _ _
      | exact ih1 _ _ _ _ _
      | exact phaetonref05_bare.mono _ _ _ _
      | exact phaetonref05_last.mono _ _ _
      | exact phaetonref05_tail.mono _ _ _
      | exact LeO.none _
      | refine LeO.ite ?_ ?_
      | refine LeO.bind ?_ (fun _ => ?_)
    · intro y0 y1 y2 y3 y4
      unfold phaetonref05_Read.j1
      repeat' first
      | (with_reducible exact ih0 _ _)
      | (with_reducible exact ih1 _ _ _ _ _)
      | (with_reducible exact phaetonref05_bare.mono _ _ _ _)
      | (with_reducible exact phaetonref05_last.mono _ _ _)
      | (with_reducible exact phaetonref05_tail.mono _ _ _)
      | (with_reducible exact LeO.refl _)
      | (with_reducible exact LeO.none _)
      | (with_reducible refine LeO.ite ?_ ?_)
      | (with_reducible refine LeO.bind ?_ (fun _ => ?_))
      | exact ih0 _ _
      | exact ih1 _ _ _ _ _
      | exact phaetonref05_bare.mono _ _ _ _
      | exact phaetonref05_last.mono _ _ _
      | exact phaetonref05_tail.mono _ _ _
      | exact LeO.none _
      | refine LeO.ite ?_ ?_
      | refine LeO.bind ?_ (fun _ => ?_)
theorem phaetonref05_Read.mono : ∀ a0 k, LeO (phaetonref05_Read.f k a0) (phaetonref05_Read.f (k + 1) a0) := by
  intro a0 k
  obtain ⟨ih0, ih1⟩ := phaetonref05_Read.mono_l k
  unfold phaetonref05_Read.f
  repeat' first
      | (with_reducible exact ih0 _ _)
      | (with_reducible exact ih1 _ _ _ _ _)
      | (with_reducible exact phaetonref05_bare.mono _ _ _ _)
      | (with_reducible exact phaetonref05_last.mono _ _ _)
      | (with_reducible exact phaetonref05_tail.mono _ _ _)
      | (with_reducible exact LeO.refl _)
      | (with_reducible exact LeO.none _)
      | (with_reducible refine LeO.ite ?_ ?_)
      | (with_reducible refine LeO.bind ?_ (fun _ => ?_))
      | exact ih0 _ _
      | exact ih1 _ _ _ _ _
      | exact phaetonref05_bare.mono _ _ _ _
      | exact phaetonref05_last.mono _ _ _
      | exact phaetonref05_tail.mono _ _ _
      | exact LeO.none _
      | refine LeO.ite ?_ ?_
      | refine LeO.bind ?_ (fun _ => ?_)
set_option maxHeartbeats 8000000 in
set_option maxRecDepth 100000 in
theorem phaetonref05_Read.calls (k : Nat) (A0 : Option Addr) (c0 : Nat) (l0 : List Int) (r1 : Bool) (r2 : Int) (r3 : Bool) (r4 : Int) (r5 : List Int) (r6 : Int) (r7 : Int) (w : World) (hr0 : Kd.C (Kd.int .i64) w A0 l0.length l0) (hc0 : l0.length ≤ c0) (h : phaetonref05_Read.f k l0 = some (r1, r2, r3, r4, r5, r6, r7)) :
    Calls Try.prog 22 #[.slice A0 l0.length c0] w fun e w' => ∃ v4_ : Value, e = .returned (.tuple #[.agg #[.bool r1, .int .i64 r2, .bool r3, .int .i64 r4, v4_], .int .i64 r6, .int .i64 r7]) ∧ Kd.R (Kd.int .u8) 5 w' w.heap.size (fun _ => True) v4_ r5 ∧ Below w.heap.size w w' := by
  have hu24 := Try.underlying24
  have HR0 := Aside0.mk hr0
  have HC0 := Aside0.mk hc0
  clear hr0 hc0
  have HB := Aside0.mk (Below.refl w.heap.size w)
  have H : (phaetonref05_Read.l0 k l0 1) = some (r1, r2, r3, r4, r5, r6, r7) := h
  clear h
  have H' := Aside0.mk H
  clear H
  go_enter Try.func22, Try.ntmps22
  go_wp2_with (first | ((with_reducible refine gate_store (t := 24) (p := 2) rfl ?_); refine HW.store_box5 rfl rfl 24 _ _ rfl rfl rfl BK327.out rfl (by kernel_rfl) rfl rfl rfl rfl rfl ?_; intro w1_ hw1_ hk1_; subst hw1_; have hcb327_0 := (blk_cell hk1_ 0).trans rfl; have hfb327_0 := blk_frozen hk1_ 0; have hcb327_1 := (blk_cell hk1_ 1).trans rfl; have hfb327_1 := blk_frozen hk1_ 1; have hcb327_2 := (blk_cell hk1_ 2).trans rfl; have hfb327_2 := blk_frozen hk1_ 2; have hcb327_3 := (blk_cell hk1_ 3).trans rfl; have hfb327_3 := blk_frozen hk1_ 3; have hcb327_4 := (blk_cell hk1_ 4).trans rfl; have hfb327_4 := blk_frozen hk1_ 4; clear hk1_) | ((with_reducible refine gate_dst (N := 2) rfl ?_); refine box_event ?hg (N := 2) ?hd (cs := #[.bool false, .int .i64 0, .bool false, .int .i64 0, .slice none 0 0]) (t := 24) ?hr ?_; (case hd => rfl); (case hg => rfl); (case hr => first | (go_simp; done) | (go_simp; rfl)); intro gb327 hg w2 hbox hb; have n0_ := Aside0.mk (below_step (by repeat (first | (with_reducible first | exact HB.out | apply below_alloc | apply pw_below_drewN | apply below_drew1) | exact HB.out)) hb); have n1_ := Aside0.mk (hbox); have n2_ := Aside0.mk ((by rw [hg]; exact (below_size (by repeat (first | (with_reducible first | exact HB.out | apply below_alloc | apply pw_below_drewN | apply below_drew1) | exact HB.out))) : w.heap.size ≤ gb327)); have n3_ := Aside0.mk ((by rw [hg]; exact (below_size (by repeat (first | (with_reducible first | exact HB.out | apply below_alloc | apply pw_below_drewN | apply below_drew1) | exact HB.out))) : w.heap.size ≤ gb327)); clear HB; have HB := n0_; have BK327 := n1_; have GW327 := n2_; have GE327 := n3_; clear n0_ n1_ n2_ n3_; clear hb hbox hg))
  go_loopg [5] k (fun kq v5 w' => ∃ (x5_1 : Int) (x328000_1 : Bool) (x328001_1 : Int) (x328002_1 : Bool) (x328003_1 : Int), v5 = .int .i64 x5_1 ∧ Aside0 (phaetonref05_Read.l0 kq l0 x5_1 = some (r1, r2, r3, r4, r5, r6, r7)) ∧ Aside0 (kq ≤ k) ∧ Aside0 (w'.heap[gb327]? = some (.cells #[.bool x328000_1, .int .i64 x328001_1, .bool x328002_1, .int .i64 x328003_1, (.slice none 0 0)] 24 (0, 0))) ∧ Aside0 (Below w.heap.size w w'))
  case atStart => exact ⟨(1), (false), (0), (false), (0), (by first | rfl | (simp; done) | (simp [*]; done)), H', ⟨Nat.le_refl _⟩, ⟨by (with_reducible repeat (first | refine blk_drewN ?_ _ | refine blk_drew ?_ | refine blk_alloc ?_ _)); exact BK327.out⟩, ⟨by repeat (first | (with_reducible first | exact HB.out | apply below_alloc | apply pw_below_drewN | apply below_drew1 | refine below_set ?_ GE327.out) | exact HB.out)⟩⟩
  case round =>
    clear H'
    try clear c2
    try clear p2
    obtain ⟨x5_1, x328000_1, x328001_1, x328002_1, x328003_1, rfl, HA, HK1, BK327, HB⟩ := hrel
    cases gk with
    | zero => exact absurd HA.out (by simp [phaetonref05_Read.l0])
    | succ k1 =>
      have H := HA.out
      clear HA
      simp only [phaetonref05_Read.l0] at H
      replace H := Option.bind_eq_some_iff.mp H
      obtain ⟨⟨t328, t329, t330⟩, A30, H⟩ := H
      replace H : (if t330 = 0 then ((phaetonref04_Read.f t328).bind fun bt333 => (if bt333.2.2.2.2.2.2 = 42 then (phaetonref05_Read.j1 k1 l0 x5_1 bt333.2.2.2.2.2.1 bt333.2.2.2.2.2.2 true) else (phaetonref05_Read.j1 k1 l0 x5_1 bt333.2.2.2.2.2.1 bt333.2.2.2.2.2.2 (bt333.2.2.2.2.2.2 == 41)))) else (some (false, 0, false, 0, ([] : List Int), t330, t329))) = some (r1, r2, r3, r4, r5, r6, r7) := H
      have A3 := Aside0.mk A30
      clear A30
      by_cases c4 : t330 = 0
      · rw [if_pos c4] at H
        have c4b0 : (t330 == 0) = true := beq_iff_eq.mpr c4
        have c4b1 : (t330 != 0) = false := bne_eq_false_iff_eq.mpr c4
        clear c4
        replace H := Option.bind_eq_some_iff.mp H
        obtain ⟨⟨t333, t334, t335, t336, t337, t340, t341⟩, A50, H⟩ := H
        replace H : (if t341 = 42 then (phaetonref05_Read.j1 k1 l0 x5_1 t340 t341 true) else (phaetonref05_Read.j1 k1 l0 x5_1 t340 t341 (t341 == 41))) = some (r1, r2, r3, r4, r5, r6, r7) := H
        have A5 := Aside0.mk A50
        clear A50
        have HC6 := Aside0.mk H
        clear H
        go_upto_region 6 with (first | ((with_reducible refine gate_callee (f := 35) rfl ?_); refine goesL_ (some 18) rfl rfl Try.func35 (by kernel_rfl) rfl #[.slice A0 l0.length c0, .int .i64 x5_1, .bool false] rfl (by (try simp only [List.map_toArray, List.map_cons, List.map_nil]); first | done | rfl | (simp only [List.length_drop, List.length_take]; rfl)) ?_; (with_reducible refine (phaetonref05_bare.calls k1 _ _ l0 x5_1 false t328 t329 t330 _ ?side1 ?side2 A3.out).mono ?_); (case side1 => repeat (first | exact (Kd.C_below HR0.out HB.out) | (with_reducible refine Kd.C_alloc ?_ _) | (with_reducible refine Kd.C_drewN ?_ _) | (with_reducible refine Kd.C_drew ?_))); (case side2 => exact HC0.out); rintro e w7 ⟨v331, rfl, ho0, hb⟩; refine ⟨_, rfl, ?_⟩; have n0_ := Aside0.mk (Kd.R_lower ho0 (below_size (by repeat (first | (with_reducible first | exact HB.out | apply below_alloc | apply pw_below_drewN | apply below_drew1 | refine below_set ?_ GE327.out) | exact HB.out)))); have n1_ := Aside0.mk (blk_below (g := gb327) (o := .cells #[.bool x328000_1, .int .i64 x328001_1, .bool x328002_1, .int .i64 x328003_1, .slice none 0 0] 24 (0, 0)) (by (with_reducible repeat (first | refine blk_drewN ?_ _ | refine blk_drew ?_ | refine blk_alloc ?_ _)); exact BK327.out) hb); have n2_ := Aside0.mk (below_step (by repeat (first | (with_reducible first | exact HB.out | apply below_alloc | apply pw_below_drewN | apply below_drew1 | refine below_set ?_ GE327.out) | exact HB.out)) hb); clear BK327; clear HB; have HO332 := n0_; have BK327 := n1_; have HB := n2_; clear n0_ n1_ n2_; (try clear hb); (try clear hb2); (try clear hk); (try clear hi); (try clear ho0); obtain ⟨Ao8, co8, eo8⟩ := Kd.R_slice HO332.out; subst eo8) | ((with_reducible refine gate_callee (f := 36) rfl ?_); refine goesL_ (some 29) rfl rfl Try.func36 (by kernel_rfl) rfl #[.slice Ao8 t328.length co8] rfl (by (try simp only [List.map_toArray, List.map_cons, List.map_nil]); first | done | rfl | (simp only [List.length_drop, List.length_take]; rfl)) ?_; (with_reducible refine (phaetonref04_Read.calls _ _ t328 t333 t334 t335 t336 t337 t340 t341 _ ?side1 ?side2 A5.out).mono ?_); (case side1 => repeat (first | exact (Kd.R_reads' HO332.out).2.2 | (with_reducible refine Kd.C_alloc ?_ _) | (with_reducible refine Kd.C_drewN ?_ _) | (with_reducible refine Kd.C_drew ?_))); (case side2 => exact (Kd.R_reads' HO332.out).2.1); rintro e w9 ⟨v338, rfl, ho0, hb⟩; refine ⟨_, rfl, ?_⟩; have n0_ := Aside0.mk (Kd.R_below (by (with_reducible repeat (first | apply Kd.R_alloc | apply Kd.R_drewN | apply Kd.R_drew)); exact HO332.out) hb); have n1_ := Aside0.mk (Kd.R_lower ho0 (below_size (by repeat (first | (with_reducible first | exact HB.out | apply below_alloc | apply pw_below_drewN | apply below_drew1 | refine below_set ?_ GE327.out) | exact HB.out)))); have n2_ := Aside0.mk (blk_below (g := gb327) (o := .cells #[.bool x328000_1, .int .i64 x328001_1, .bool x328002_1, .int .i64 x328003_1, .slice none 0 0] 24 (0, 0)) (by (with_reducible repeat (first | refine blk_drewN ?_ _ | refine blk_drew ?_ | refine blk_alloc ?_ _)); exact BK327.out) hb); have n3_ := Aside0.mk (below_step (by repeat (first | (with_reducible first | exact HB.out | apply below_alloc | apply pw_below_drewN | apply below_drew1 | refine below_set ?_ GE327.out) | exact HB.out)) hb); clear HO332; clear BK327; clear HB; have HO332 := n0_; have HO339 := n1_; have BK327 := n2_; have HB := n3_; clear n0_ n1_ n2_ n3_; (try clear hb); (try clear hb2); (try clear hk); (try clear hi); (try clear ho0)) | ((with_reducible refine gate_dst (N := 9) rfl ?_); refine box_event ?hg (N := 9) ?hd (cs := #[.bool false, .int .i64 0, .bool false, .int .i64 0, .slice none 0 0]) (t := 24) ?hr ?_; (case hd => rfl); (case hg => rfl); (case hr => first | (go_simp; done) | (go_simp; rfl)); intro gb342 hg w10 hbox hb; have n0_ := Aside0.mk (Kd.R_below (by (with_reducible repeat (first | apply Kd.R_alloc | apply Kd.R_drewN | apply Kd.R_drew)); exact HO332.out) hb); have n1_ := Aside0.mk (Kd.R_below (by (with_reducible repeat (first | apply Kd.R_alloc | apply Kd.R_drewN | apply Kd.R_drew)); exact HO339.out) hb); have n2_ := Aside0.mk (blk_below (g := gb327) (o := .cells #[.bool x328000_1, .int .i64 x328001_1, .bool x328002_1, .int .i64 x328003_1, .slice none 0 0] 24 (0, 0)) (by (with_reducible repeat (first | refine blk_drewN ?_ _ | refine blk_drew ?_ | refine blk_alloc ?_ _)); exact BK327.out) hb); have n3_ := Aside0.mk (below_step (by repeat (first | (with_reducible first | exact HB.out | apply below_alloc | apply pw_below_drewN | apply below_drew1 | refine below_set ?_ GE327.out) | exact HB.out)) hb); have n4_ := Aside0.mk (hbox); have n5_ := Aside0.mk ((by rw [hg]; exact (below_size (by repeat (first | (with_reducible first | exact HB.out | apply below_alloc | apply pw_below_drewN | apply below_drew1 | refine below_set ?_ GE327.out) | exact HB.out))) : w.heap.size ≤ gb342)); have n6_ := Aside0.mk ((by rw [hg]; exact (below_size (by repeat (first | (with_reducible first | exact HB.out | apply below_alloc | apply pw_below_drewN | apply below_drew1 | refine below_set ?_ GE327.out) | exact HB.out))) : w.heap.size ≤ gb342)); have n7_ := Aside0.mk ((by rw [hg]; exact Nat.ne_of_lt (blk_lt (g := gb327) (o := .cells #[.bool x328000_1, .int .i64 x328001_1, .bool x328002_1, .int .i64 x328003_1, .slice none 0 0] 24 (0, 0)) (by (with_reducible repeat (first | refine blk_drewN ?_ _ | refine blk_drew ?_ | refine blk_alloc ?_ _)); exact BK327.out)) : gb327 ≠ gb342)); have n8_ := Aside0.mk ((by rw [hg]; exact Nat.ne_of_gt (blk_lt (g := gb327) (o := .cells #[.bool x328000_1, .int .i64 x328001_1, .bool x328002_1, .int .i64 x328003_1, .slice none 0 0] 24 (0, 0)) (by (with_reducible repeat (first | refine blk_drewN ?_ _ | refine blk_drew ?_ | refine blk_alloc ?_ _)); exact BK327.out)) : gb342 ≠ gb327)); clear HO332; clear HO339; clear BK327; clear HB; have HO332 := n0_; have HO339 := n1_; have BK327 := n2_; have HB := n3_; have BK342 := n4_; have GW342 := n5_; have GE342 := n6_; have NB327_342 := n7_; have NB342_327 := n8_; clear n0_ n1_ n2_ n3_ n4_ n5_ n6_ n7_ n8_; clear hb hbox hg; have hnb11 := NB342_327.out; have hnc11 := NB327_342.out; have hcz12_0 : w10.cell? ⟨gb342, 0, none⟩ = some (.bool false) := (blk_cell BK342.out 0).trans rfl; have hcz12_1 : w10.cell? ⟨gb342, 1, none⟩ = some (.int .i64 0) := (blk_cell BK342.out 1).trans rfl; have hcz12_2 : w10.cell? ⟨gb342, 2, none⟩ = some (.bool false) := (blk_cell BK342.out 2).trans rfl; have hcz12_3 : w10.cell? ⟨gb342, 3, none⟩ = some (.int .i64 0) := (blk_cell BK342.out 3).trans rfl; have hcz12_4 : w10.cell? ⟨gb342, 4, none⟩ = some (.slice none 0 0) := (blk_cell BK342.out 4).trans rfl; have hfz12_0 := blk_frozen BK342.out 0; have hfz12_1 := blk_frozen BK342.out 1; have hfz12_2 := blk_frozen BK342.out 2; have hfz12_3 := blk_frozen BK342.out 3; have hfz12_4 := blk_frozen BK342.out 4; obtain ⟨Ao13, co13, eo13⟩ := Kd.R_slice HO339.out; subst eo13))
        (try simp only [Act.put, List.setIfInBounds_toArray, List.set_cons_zero, List.set_cons_succ])
        go_cut [38] (fun v38 wc => ∃ (kq : Nat) (x38_5 : Bool), v38 = .bool x38_5 ∧ Aside0 (phaetonref05_Read.j1 kq l0 x5_1 t340 t341 x38_5 = some (r1, r2, r3, r4, r5, r6, r7)) ∧ Aside0 (kq ≤ k1) ∧ Aside0 (Kd.R (Kd.int .u8) 5 wc w.heap.size (fun _ => True) (.slice Ao13 t337.length co13) t337) ∧ Aside0 (wc.heap[gb327]? = some (.cells #[.bool x328000_1, .int .i64 x328001_1, .bool x328002_1, .int .i64 x328003_1, (.slice none 0 0)] 24 (0, 0))) ∧ Aside0 (wc.heap[gb342]? = some (.cells #[.bool t333, .int .i64 t334, .bool t335, .int .i64 t336, (.slice Ao13 t337.length co13)] 24 (0, 0))) ∧ Aside0 (Below w.heap.size w wc))
        case first =>
          have H := HC6.out
          clear HC6
          by_cases c14 : t341 = 42
          · rw [if_pos c14] at H
            have c14b0 : (t341 == 42) = true := beq_iff_eq.mpr c14
            have c14b1 : (t341 != 42) = false := bne_eq_false_iff_eq.mpr c14
            clear c14
            (first | rw [c14b0] | (simp only [i64_w, i32_w]; rw [c14b0]) | skip)
            have H' := Aside0.mk H
            clear H
            go_wp2
            go_meet
            case rel => exact ⟨_, (true), (by first | rfl | (simp; done) | (simp [*]; done)), H', ⟨by have := HK1.out; first | omega | exact Nat.le_refl _⟩, ⟨by (with_reducible repeat (first | apply Kd.R_alloc | apply Kd.R_drewN | apply Kd.R_drew)); exact Kd.R_mono (Kd.R_far (p := ⟨gb342, 4, none⟩) (Kd.R_far (p := ⟨gb342, 3, none⟩) (Kd.R_far (p := ⟨gb342, 2, none⟩) (Kd.R_far (p := ⟨gb342, 1, none⟩) (Kd.R_far (p := ⟨gb342, 0, none⟩) (Kd.R_types HO339.out BK342.out (by decide)) (fun _ hk => hk.2) (.bool t333)) (fun _ hk => hk.2) (.int .i64 t334)) (fun _ hk => hk.2) (.bool t335)) (fun _ hk => hk.2) (.int .i64 t336)) (fun _ hk => hk.2) (.slice Ao13 t337.length co13)) (fun _ hk => trivial)⟩, ⟨by (with_reducible repeat (first | refine blk_drewN ?_ _ | refine blk_drew ?_ | refine blk_alloc ?_ _)); refine HW.blk_far5 ?_ NB327_342.out; (with_reducible repeat (first | refine blk_drewN ?_ _ | refine blk_drew ?_ | refine blk_alloc ?_ _)); exact BK327.out⟩, ⟨by (with_reducible repeat (first | refine blk_drewN ?_ _ | refine blk_drew ?_ | refine blk_alloc ?_ _)); refine HW.blk_put5 (cs := #[.bool false, .int .i64 0, .bool false, .int .i64 0, .slice none 0 0]) ?_ rfl; (with_reducible repeat (first | refine blk_drewN ?_ _ | refine blk_drew ?_ | refine blk_alloc ?_ _)); exact BK342.out⟩, ⟨by repeat (first | (with_reducible first | exact HB.out | apply below_alloc | apply pw_below_drewN | apply below_drew1 | refine below_set ?_ GE327.out | refine below_set ?_ GE342.out) | exact HB.out)⟩⟩
          · rw [if_neg c14] at H
            have c14b0 : (t341 == 42) = false := beq_eq_false_iff_ne.mpr c14
            have c14b1 : (t341 != 42) = true := bne_iff_ne.mpr c14
            (first | rw [c14b0] | (simp only [i64_w, i32_w]; rw [c14b0]) | skip)
            have H' := Aside0.mk H
            clear H
            go_wp2
            go_meet
            case rel => exact ⟨_, ((t341 == 41)), (by first | rfl | (simp; done) | (simp [*]; done)), H', ⟨by have := HK1.out; first | omega | exact Nat.le_refl _⟩, ⟨by (with_reducible repeat (first | apply Kd.R_alloc | apply Kd.R_drewN | apply Kd.R_drew)); exact Kd.R_mono (Kd.R_far (p := ⟨gb342, 4, none⟩) (Kd.R_far (p := ⟨gb342, 3, none⟩) (Kd.R_far (p := ⟨gb342, 2, none⟩) (Kd.R_far (p := ⟨gb342, 1, none⟩) (Kd.R_far (p := ⟨gb342, 0, none⟩) (Kd.R_types HO339.out BK342.out (by decide)) (fun _ hk => hk.2) (.bool t333)) (fun _ hk => hk.2) (.int .i64 t334)) (fun _ hk => hk.2) (.bool t335)) (fun _ hk => hk.2) (.int .i64 t336)) (fun _ hk => hk.2) (.slice Ao13 t337.length co13)) (fun _ hk => trivial)⟩, ⟨by (with_reducible repeat (first | refine blk_drewN ?_ _ | refine blk_drew ?_ | refine blk_alloc ?_ _)); refine HW.blk_far5 ?_ NB327_342.out; (with_reducible repeat (first | refine blk_drewN ?_ _ | refine blk_drew ?_ | refine blk_alloc ?_ _)); exact BK327.out⟩, ⟨by (with_reducible repeat (first | refine blk_drewN ?_ _ | refine blk_drew ?_ | refine blk_alloc ?_ _)); refine HW.blk_put5 (cs := #[.bool false, .int .i64 0, .bool false, .int .i64 0, .slice none 0 0]) ?_ rfl; (with_reducible repeat (first | refine blk_drewN ?_ _ | refine blk_drew ?_ | refine blk_alloc ?_ _)); exact BK342.out⟩, ⟨by repeat (first | (with_reducible first | exact HB.out | apply below_alloc | apply pw_below_drewN | apply below_drew1 | refine below_set ?_ GE327.out | refine below_set ?_ GE342.out) | exact HB.out)⟩⟩
        case rest =>
          clear HC6
          try clear c1
          try clear c2
          try clear p2
          try clear c3
          try clear c4
          try clear c4b0
          try clear c4b1
          try clear c11
          try clear c14
          try clear c14b0
          try clear c14b1
          try clear hcz12_0
          try clear hcz12_1
          try clear hcz12_2
          try clear hcz12_3
          try clear hcz12_4
          try clear hfz12_0
          try clear hfz12_1
          try clear hfz12_2
          try clear hfz12_3
          try clear hfz12_4
          try clear p2
          obtain ⟨kq, x38_5, rfl, HA, HJ5, HO_343004, BK327, BK342, HB⟩ := hcut
          cases kq with
          | zero => exact absurd HA.out (by simp [phaetonref05_Read.j1])
          | succ kj5 =>
            have H := HA.out
            clear HA
            simp only [phaetonref05_Read.j1] at H
            by_cases c15 : x38_5 = true
            · subst c15
              have H1 : ((phaetonref05_last.f kj5 l0 x5_1).bind fun t343 => (some (false, 0, false, 0, ([] : List Int), 3, t343))) = some (r1, r2, r3, r4, r5, r6, r7) := by rw [if_pos rfl] at H; exact H
              clear H
              have H := H1
              clear H1
              replace H := Option.bind_eq_some_iff.mp H
              obtain ⟨t343, A160, H⟩ := H
              replace H : (some (false, 0, false, 0, ([] : List Int), 3, t343)) = some (r1, r2, r3, r4, r5, r6, r7) := H
              have A16 := Aside0.mk A160
              clear A160
              simp only [Option.some.injEq, Prod.mk.injEq] at H
              obtain ⟨rfl, rfl, rfl, rfl, rfl, rfl, rfl⟩ := H
              go_wp2_with (first | ((with_reducible refine gate_store (t := 24) (p := 9) rfl ?_); refine HW.store_box5 rfl rfl 24 _ _ rfl rfl rfl BK342.out rfl (by kernel_rfl) rfl rfl rfl rfl rfl ?_; intro w1_ hw1_ hk1_; subst hw1_; have hcb342_0 := (blk_cell hk1_ 0).trans rfl; have hfb342_0 := blk_frozen hk1_ 0; have hcb342_1 := (blk_cell hk1_ 1).trans rfl; have hfb342_1 := blk_frozen hk1_ 1; have hcb342_2 := (blk_cell hk1_ 2).trans rfl; have hfb342_2 := blk_frozen hk1_ 2; have hcb342_3 := (blk_cell hk1_ 3).trans rfl; have hfb342_3 := blk_frozen hk1_ 3; have hcb342_4 := (blk_cell hk1_ 4).trans rfl; have hfb342_4 := blk_frozen hk1_ 4; clear hk1_) | ((with_reducible refine gate_store (t := 24) (p := 2) rfl ?_); refine HW.store_box5 rfl rfl 24 _ _ rfl rfl rfl BK327.out rfl (by kernel_rfl) rfl rfl rfl rfl rfl ?_; intro w1_ hw1_ hk1_; subst hw1_; have hcb327_0 := (blk_cell hk1_ 0).trans rfl; have hfb327_0 := blk_frozen hk1_ 0; have hcb327_1 := (blk_cell hk1_ 1).trans rfl; have hfb327_1 := blk_frozen hk1_ 1; have hcb327_2 := (blk_cell hk1_ 2).trans rfl; have hfb327_2 := blk_frozen hk1_ 2; have hcb327_3 := (blk_cell hk1_ 3).trans rfl; have hfb327_3 := blk_frozen hk1_ 3; have hcb327_4 := (blk_cell hk1_ 4).trans rfl; have hfb327_4 := blk_frozen hk1_ 4; clear hk1_) | ((with_reducible refine gate_callee (f := 37) rfl ?_); refine goesL_ (some 42) rfl rfl Try.func37 (by kernel_rfl) rfl #[.slice A0 l0.length c0, .int .i64 x5_1] rfl (by (try simp only [List.map_toArray, List.map_cons, List.map_nil]); first | done | rfl | (simp only [List.length_drop, List.length_take]; rfl)) ?_; (with_reducible refine (phaetonref05_last.calls kj5 _ _ l0 x5_1 t343 _ ?side1 ?side2 A16.out).mono ?_); (case side1 => repeat (first | exact (Kd.C_below HR0.out HB.out) | (with_reducible refine Kd.C_alloc ?_ _) | (with_reducible refine Kd.C_drewN ?_ _) | (with_reducible refine Kd.C_drew ?_))); (case side2 => exact HC0.out); rintro e w' ⟨rfl, ⟨nd, rfl⟩⟩; refine ⟨_, rfl, ?_⟩; (try (rw [drewN_self wc]; generalize hq_ : World.drewN wc _ = wc; have n0_ : Aside0 (Kd.R (Kd.int .u8) 5 wc w.heap.size (fun _ => True) (.slice Ao13 t337.length co13) t337) := ⟨by rw [← hq_]; exact (by (with_reducible repeat (first | apply Kd.R_alloc | apply Kd.R_drewN | apply Kd.R_drew)); exact HO_343004.out)⟩; have n1_ : Aside0 (wc.heap[gb327]? = some (.cells #[.bool x328000_1, .int .i64 x328001_1, .bool x328002_1, .int .i64 x328003_1, .slice none 0 0] 24 (0, 0))) := ⟨by rw [← hq_]; exact (by (with_reducible repeat (first | refine blk_drewN ?_ _ | refine blk_drew ?_ | refine blk_alloc ?_ _)); exact BK327.out)⟩; have n2_ : Aside0 (wc.heap[gb342]? = some (.cells #[.bool t333, .int .i64 t334, .bool t335, .int .i64 t336, .slice Ao13 t337.length co13] 24 (0, 0))) := ⟨by rw [← hq_]; exact (by (with_reducible repeat (first | refine blk_drewN ?_ _ | refine blk_drew ?_ | refine blk_alloc ?_ _)); exact BK342.out)⟩; have n3_ : Aside0 (Below w.heap.size w wc) := ⟨by rw [← hq_]; exact (by repeat (first | (with_reducible first | exact HB.out | apply below_alloc | apply pw_below_drewN | apply below_drew1 | refine below_set ?_ GE327.out | refine below_set ?_ GE342.out) | exact HB.out))⟩; clear HO_343004 BK327 BK342 HB hq_; have HO_343004 := n0_; have BK327 := n1_; have BK342 := n2_; have HB := n3_; clear n0_ n1_ n2_ n3_)); have hnb17 := NB327_342.out; have hnc17 := NB342_327.out; have hcz18_0 : wc.cell? ⟨gb327, 0, none⟩ = some (.bool x328000_1) := (blk_cell BK327.out 0).trans rfl; have hcz18_1 : wc.cell? ⟨gb327, 1, none⟩ = some (.int .i64 x328001_1) := (blk_cell BK327.out 1).trans rfl; have hcz18_2 : wc.cell? ⟨gb327, 2, none⟩ = some (.bool x328002_1) := (blk_cell BK327.out 2).trans rfl; have hcz18_3 : wc.cell? ⟨gb327, 3, none⟩ = some (.int .i64 x328003_1) := (blk_cell BK327.out 3).trans rfl; have hcz18_4 : wc.cell? ⟨gb327, 4, none⟩ = some (.slice none 0 0) := (blk_cell BK327.out 4).trans rfl; have hfz18_0 := blk_frozen BK327.out 0; have hfz18_1 := blk_frozen BK327.out 1; have hfz18_2 := blk_frozen BK327.out 2; have hfz18_3 := blk_frozen BK327.out 3; have hfz18_4 := blk_frozen BK327.out 4))
              refine bodyPost_ret (results_ctt rfl _ _ gb327 24 #[.bool false, .int .i64 0, .bool false, .int .i64 0, .slice none 0 0] (0, 0) _ rfl (by (with_reducible repeat (first | refine blk_drewN ?_ _ | refine blk_drew ?_ | refine blk_alloc ?_ _)); refine HW.blk_put5 (cs := #[.bool x328000_1, .int .i64 x328001_1, .bool x328002_1, .int .i64 x328003_1, .slice none 0 0]) ?_ rfl; (with_reducible repeat (first | refine blk_drewN ?_ _ | refine blk_drew ?_ | refine blk_alloc ?_ _)); exact BK327.out) Try.underlying24 rfl (by kernel_rfl)) rfl ?_
              exact ⟨_, by first | rfl | (simp [errW_none, errW_some] <;> rfl) | (simp [*, errW_none, errW_some] <;> rfl), by first | exact Kd.R_nil _ _ _ _ _ | exact Kd.N_nil _ _ _ _ _ | exact Kd.V_nil _ _ _ _ _ | exact Kd.Q_nil _ _ _ _ _ | exact Kd.S_nil _ _ _ _ _, by repeat (first | (with_reducible first | exact HB.out | apply below_alloc | apply pw_below_drewN | apply below_drew1 | refine below_set ?_ GE327.out | refine below_set ?_ GE342.out) | exact HB.out)⟩
            · replace c15 := Bool.eq_false_iff.mpr c15
              subst c15
              have H1 : (if t341 = 0 then ((phaetonref05_tail.f kj5 l0 t340).bind fun bt344 => (some (bt344.1, bt344.2.1, bt344.2.2.1, bt344.2.2.2.1, bt344.2.2.2.2.1, bt344.2.2.2.2.2.1, bt344.2.2.2.2.2.2))) else (phaetonref05_Read.l0 kj5 l0 (wrap64 (x5_1 + 1)))) = some (r1, r2, r3, r4, r5, r6, r7) := by rw [if_neg (show ¬ (false = true) by decide)] at H; exact H
              clear H
              have H := H1
              clear H1
              by_cases c19 : t341 = 0
              · rw [if_pos c19] at H
                have c19b0 : (t341 == 0) = true := beq_iff_eq.mpr c19
                have c19b1 : (t341 != 0) = false := bne_eq_false_iff_eq.mpr c19
                clear c19
                replace H := Option.bind_eq_some_iff.mp H
                obtain ⟨⟨t344, t345, t346, t347, t348, t351, t352⟩, A200, H⟩ := H
                replace H : (some (t344, t345, t346, t347, t348, t351, t352)) = some (r1, r2, r3, r4, r5, r6, r7) := H
                have A20 := Aside0.mk A200
                clear A200
                simp only [Option.some.injEq, Prod.mk.injEq] at H
                obtain ⟨rfl, rfl, rfl, rfl, rfl, rfl, rfl⟩ := H
                go_wp2_with (first | ((with_reducible refine gate_store (t := 24) (p := 12) rfl ?_); refine HW.store_box5 rfl rfl 24 _ _ rfl rfl rfl BK353.out rfl (by kernel_rfl) rfl rfl rfl rfl rfl ?_; intro w1_ hw1_ hk1_; subst hw1_; have hcb353_0 := (blk_cell hk1_ 0).trans rfl; have hfb353_0 := blk_frozen hk1_ 0; have hcb353_1 := (blk_cell hk1_ 1).trans rfl; have hfb353_1 := blk_frozen hk1_ 1; have hcb353_2 := (blk_cell hk1_ 2).trans rfl; have hfb353_2 := blk_frozen hk1_ 2; have hcb353_3 := (blk_cell hk1_ 3).trans rfl; have hfb353_3 := blk_frozen hk1_ 3; have hcb353_4 := (blk_cell hk1_ 4).trans rfl; have hfb353_4 := blk_frozen hk1_ 4; clear hk1_) | ((with_reducible refine gate_store (t := 24) (p := 9) rfl ?_); refine HW.store_box5 rfl rfl 24 _ _ rfl rfl rfl BK342.out rfl (by kernel_rfl) rfl rfl rfl rfl rfl ?_; intro w1_ hw1_ hk1_; subst hw1_; have hcb342_0 := (blk_cell hk1_ 0).trans rfl; have hfb342_0 := blk_frozen hk1_ 0; have hcb342_1 := (blk_cell hk1_ 1).trans rfl; have hfb342_1 := blk_frozen hk1_ 1; have hcb342_2 := (blk_cell hk1_ 2).trans rfl; have hfb342_2 := blk_frozen hk1_ 2; have hcb342_3 := (blk_cell hk1_ 3).trans rfl; have hfb342_3 := blk_frozen hk1_ 3; have hcb342_4 := (blk_cell hk1_ 4).trans rfl; have hfb342_4 := blk_frozen hk1_ 4; clear hk1_) | ((with_reducible refine gate_store (t := 24) (p := 2) rfl ?_); refine HW.store_box5 rfl rfl 24 _ _ rfl rfl rfl BK327.out rfl (by kernel_rfl) rfl rfl rfl rfl rfl ?_; intro w1_ hw1_ hk1_; subst hw1_; have hcb327_0 := (blk_cell hk1_ 0).trans rfl; have hfb327_0 := blk_frozen hk1_ 0; have hcb327_1 := (blk_cell hk1_ 1).trans rfl; have hfb327_1 := blk_frozen hk1_ 1; have hcb327_2 := (blk_cell hk1_ 2).trans rfl; have hfb327_2 := blk_frozen hk1_ 2; have hcb327_3 := (blk_cell hk1_ 3).trans rfl; have hfb327_3 := blk_frozen hk1_ 3; have hcb327_4 := (blk_cell hk1_ 4).trans rfl; have hfb327_4 := blk_frozen hk1_ 4; clear hk1_) | ((with_reducible refine gate_callee (f := 38) rfl ?_); refine goesL_ (some 48) rfl rfl Try.func38 (by kernel_rfl) rfl #[.slice A0 l0.length c0, .int .i64 t340] rfl (by (try simp only [List.map_toArray, List.map_cons, List.map_nil]); first | done | rfl | (simp only [List.length_drop, List.length_take]; rfl)) ?_; (with_reducible refine (phaetonref05_tail.calls kj5 _ _ l0 t340 t344 t345 t346 t347 t348 t351 t352 _ ?side1 ?side2 A20.out).mono ?_); (case side1 => repeat (first | exact (Kd.C_below HR0.out HB.out) | (with_reducible refine Kd.C_alloc ?_ _) | (with_reducible refine Kd.C_drewN ?_ _) | (with_reducible refine Kd.C_drew ?_))); (case side2 => exact HC0.out); rintro e w21 ⟨v349, rfl, ho0, hb⟩; refine ⟨_, rfl, ?_⟩; have n0_ := Aside0.mk (Kd.R_elder' (by (with_reducible repeat (first | apply Kd.R_alloc | apply Kd.R_drewN | apply Kd.R_drew)); exact HO_343004.out) (Kd.R_base ho0) hb); have n1_ := Aside0.mk (Kd.R_lower (Kd.R_new' ho0 (Kd.R_lt (by (with_reducible repeat (first | apply Kd.R_alloc | apply Kd.R_drewN | apply Kd.R_drew)); exact HO_343004.out))) (below_size (by repeat (first | (with_reducible first | exact HB.out | apply below_alloc | apply pw_below_drewN | apply below_drew1 | refine below_set ?_ GE327.out | refine below_set ?_ GE342.out) | exact HB.out)))); have n2_ := Aside0.mk (blk_below (g := gb327) (o := .cells #[.bool x328000_1, .int .i64 x328001_1, .bool x328002_1, .int .i64 x328003_1, .slice none 0 0] 24 (0, 0)) (by (with_reducible repeat (first | refine blk_drewN ?_ _ | refine blk_drew ?_ | refine blk_alloc ?_ _)); exact BK327.out) hb); have n3_ := Aside0.mk (blk_below (g := gb342) (o := .cells #[.bool t333, .int .i64 t334, .bool t335, .int .i64 t336, .slice Ao13 t337.length co13] 24 (0, 0)) (by (with_reducible repeat (first | refine blk_drewN ?_ _ | refine blk_drew ?_ | refine blk_alloc ?_ _)); exact BK342.out) hb); have n4_ := Aside0.mk (below_step (by repeat (first | (with_reducible first | exact HB.out | apply below_alloc | apply pw_below_drewN | apply below_drew1 | refine below_set ?_ GE327.out | refine below_set ?_ GE342.out) | exact HB.out)) hb); clear HO_343004; clear BK327; clear BK342; clear HB; have HO_343004 := n0_; have HO350 := n1_; have BK327 := n2_; have BK342 := n3_; have HB := n4_; clear n0_ n1_ n2_ n3_ n4_; (try clear hb); (try clear hb2); (try clear hk); (try clear hi); (try clear ho0)) | ((with_reducible refine gate_dst (N := 12) rfl ?_); refine box_event ?hg (N := 12) ?hd (cs := #[.bool false, .int .i64 0, .bool false, .int .i64 0, .slice none 0 0]) (t := 24) ?hr ?_; (case hd => rfl); (case hg => rfl); (case hr => first | (go_simp; done) | (go_simp; rfl)); intro gb353 hg w22 hbox hb; have n0_ := Aside0.mk (Kd.R_below (by (with_reducible repeat (first | apply Kd.R_alloc | apply Kd.R_drewN | apply Kd.R_drew)); exact HO_343004.out) hb); have n1_ := Aside0.mk (Kd.R_below (by (with_reducible repeat (first | apply Kd.R_alloc | apply Kd.R_drewN | apply Kd.R_drew)); exact HO350.out) hb); have n2_ := Aside0.mk (blk_below (g := gb327) (o := .cells #[.bool x328000_1, .int .i64 x328001_1, .bool x328002_1, .int .i64 x328003_1, .slice none 0 0] 24 (0, 0)) (by (with_reducible repeat (first | refine blk_drewN ?_ _ | refine blk_drew ?_ | refine blk_alloc ?_ _)); exact BK327.out) hb); have n3_ := Aside0.mk (blk_below (g := gb342) (o := .cells #[.bool t333, .int .i64 t334, .bool t335, .int .i64 t336, .slice Ao13 t337.length co13] 24 (0, 0)) (by (with_reducible repeat (first | refine blk_drewN ?_ _ | refine blk_drew ?_ | refine blk_alloc ?_ _)); exact BK342.out) hb); have n4_ := Aside0.mk (below_step (by repeat (first | (with_reducible first | exact HB.out | apply below_alloc | apply pw_below_drewN | apply below_drew1 | refine below_set ?_ GE327.out | refine below_set ?_ GE342.out) | exact HB.out)) hb); have n5_ := Aside0.mk (hbox); have n6_ := Aside0.mk ((by rw [hg]; exact (below_size (by repeat (first | (with_reducible first | exact HB.out | apply below_alloc | apply pw_below_drewN | apply below_drew1 | refine below_set ?_ GE327.out | refine below_set ?_ GE342.out) | exact HB.out))) : w.heap.size ≤ gb353)); have n7_ := Aside0.mk ((by rw [hg]; exact (below_size (by repeat (first | (with_reducible first | exact HB.out | apply below_alloc | apply pw_below_drewN | apply below_drew1 | refine below_set ?_ GE327.out | refine below_set ?_ GE342.out) | exact HB.out))) : w.heap.size ≤ gb353)); have n8_ := Aside0.mk ((by rw [hg]; exact Nat.ne_of_lt (blk_lt (g := gb327) (o := .cells #[.bool x328000_1, .int .i64 x328001_1, .bool x328002_1, .int .i64 x328003_1, .slice none 0 0] 24 (0, 0)) (by (with_reducible repeat (first | refine blk_drewN ?_ _ | refine blk_drew ?_ | refine blk_alloc ?_ _)); exact BK327.out)) : gb327 ≠ gb353)); have n9_ := Aside0.mk ((by rw [hg]; exact Nat.ne_of_gt (blk_lt (g := gb327) (o := .cells #[.bool x328000_1, .int .i64 x328001_1, .bool x328002_1, .int .i64 x328003_1, .slice none 0 0] 24 (0, 0)) (by (with_reducible repeat (first | refine blk_drewN ?_ _ | refine blk_drew ?_ | refine blk_alloc ?_ _)); exact BK327.out)) : gb353 ≠ gb327)); have n10_ := Aside0.mk ((by rw [hg]; exact Nat.ne_of_lt (blk_lt (g := gb342) (o := .cells #[.bool t333, .int .i64 t334, .bool t335, .int .i64 t336, .slice Ao13 t337.length co13] 24 (0, 0)) (by (with_reducible repeat (first | refine blk_drewN ?_ _ | refine blk_drew ?_ | refine blk_alloc ?_ _)); exact BK342.out)) : gb342 ≠ gb353)); have n11_ := Aside0.mk ((by rw [hg]; exact Nat.ne_of_gt (blk_lt (g := gb342) (o := .cells #[.bool t333, .int .i64 t334, .bool t335, .int .i64 t336, .slice Ao13 t337.length co13] 24 (0, 0)) (by (with_reducible repeat (first | refine blk_drewN ?_ _ | refine blk_drew ?_ | refine blk_alloc ?_ _)); exact BK342.out)) : gb353 ≠ gb342)); clear HO_343004; clear HO350; clear BK327; clear BK342; clear HB; have HO_343004 := n0_; have HO350 := n1_; have BK327 := n2_; have BK342 := n3_; have HB := n4_; have BK353 := n5_; have GW353 := n6_; have GE353 := n7_; have NB327_353 := n8_; have NB353_327 := n9_; have NB342_353 := n10_; have NB353_342 := n11_; clear n0_ n1_ n2_ n3_ n4_ n5_ n6_ n7_ n8_ n9_ n10_ n11_; clear hb hbox hg; have hnb23 := NB353_327.out; have hnc23 := NB327_353.out; have hnb24 := NB353_342.out; have hnc24 := NB342_353.out; have hcz25_0 : w22.cell? ⟨gb353, 0, none⟩ = some (.bool false) := (blk_cell BK353.out 0).trans rfl; have hcz25_1 : w22.cell? ⟨gb353, 1, none⟩ = some (.int .i64 0) := (blk_cell BK353.out 1).trans rfl; have hcz25_2 : w22.cell? ⟨gb353, 2, none⟩ = some (.bool false) := (blk_cell BK353.out 2).trans rfl; have hcz25_3 : w22.cell? ⟨gb353, 3, none⟩ = some (.int .i64 0) := (blk_cell BK353.out 3).trans rfl; have hcz25_4 : w22.cell? ⟨gb353, 4, none⟩ = some (.slice none 0 0) := (blk_cell BK353.out 4).trans rfl; have hfz25_0 := blk_frozen BK353.out 0; have hfz25_1 := blk_frozen BK353.out 1; have hfz25_2 := blk_frozen BK353.out 2; have hfz25_3 := blk_frozen BK353.out 3; have hfz25_4 := blk_frozen BK353.out 4; obtain ⟨Ao26, co26, eo26⟩ := Kd.R_slice HO350.out; subst eo26; have hnb27 := NB327_342.out; have hnc27 := NB342_327.out; have hcz28_0 : w22.cell? ⟨gb327, 0, none⟩ = some (.bool x328000_1) := (blk_cell BK327.out 0).trans rfl; have hcz28_1 : w22.cell? ⟨gb327, 1, none⟩ = some (.int .i64 x328001_1) := (blk_cell BK327.out 1).trans rfl; have hcz28_2 : w22.cell? ⟨gb327, 2, none⟩ = some (.bool x328002_1) := (blk_cell BK327.out 2).trans rfl; have hcz28_3 : w22.cell? ⟨gb327, 3, none⟩ = some (.int .i64 x328003_1) := (blk_cell BK327.out 3).trans rfl; have hcz28_4 : w22.cell? ⟨gb327, 4, none⟩ = some (.slice none 0 0) := (blk_cell BK327.out 4).trans rfl; have hfz28_0 := blk_frozen BK327.out 0; have hfz28_1 := blk_frozen BK327.out 1; have hfz28_2 := blk_frozen BK327.out 2; have hfz28_3 := blk_frozen BK327.out 3; have hfz28_4 := blk_frozen BK327.out 4))
                refine bodyPost_ret (results_ctt rfl _ _ gb327 24 #[.bool t344, .int .i64 t345, .bool t346, .int .i64 t347, .slice Ao26 t348.length co26] (0, 0) _ rfl (by (with_reducible repeat (first | refine blk_drewN ?_ _ | refine blk_drew ?_ | refine blk_alloc ?_ _)); refine HW.blk_put5 (cs := #[.bool x328000_1, .int .i64 x328001_1, .bool x328002_1, .int .i64 x328003_1, .slice none 0 0]) ?_ rfl; (with_reducible repeat (first | refine blk_drewN ?_ _ | refine blk_drew ?_ | refine blk_alloc ?_ _)); refine HW.blk_far5 ?_ NB327_353.out; (with_reducible repeat (first | refine blk_drewN ?_ _ | refine blk_drew ?_ | refine blk_alloc ?_ _)); exact BK327.out) Try.underlying24 rfl (by kernel_rfl)) rfl ?_
                exact ⟨_, by first | rfl | (simp [errW_none, errW_some] <;> rfl) | (simp [*, errW_none, errW_some] <;> rfl), by (with_reducible repeat (first | apply Kd.R_alloc | apply Kd.R_drewN | apply Kd.R_drew)); exact Kd.R_mono (Kd.R_far (p := ⟨gb327, 4, none⟩) (Kd.R_far (p := ⟨gb327, 3, none⟩) (Kd.R_far (p := ⟨gb327, 2, none⟩) (Kd.R_far (p := ⟨gb327, 1, none⟩) (Kd.R_far (p := ⟨gb327, 0, none⟩) (Kd.R_far (p := ⟨gb353, 4, none⟩) (Kd.R_far (p := ⟨gb353, 3, none⟩) (Kd.R_far (p := ⟨gb353, 2, none⟩) (Kd.R_far (p := ⟨gb353, 1, none⟩) (Kd.R_far (p := ⟨gb353, 0, none⟩) (Kd.R_types (Kd.R_types HO350.out BK353.out (by decide)) BK327.out (by decide)) (fun _ hk => hk.1.2) (.bool t344)) (fun _ hk => hk.1.2) (.int .i64 t345)) (fun _ hk => hk.1.2) (.bool t346)) (fun _ hk => hk.1.2) (.int .i64 t347)) (fun _ hk => hk.1.2) (.slice Ao26 t348.length co26)) (fun _ hk => hk.2) (.bool t344)) (fun _ hk => hk.2) (.int .i64 t345)) (fun _ hk => hk.2) (.bool t346)) (fun _ hk => hk.2) (.int .i64 t347)) (fun _ hk => hk.2) (.slice Ao26 t348.length co26)) (fun _ hk => trivial), by repeat (first | (with_reducible first | exact HB.out | apply below_alloc | apply pw_below_drewN | apply below_drew1 | refine below_set ?_ GE327.out | refine below_set ?_ GE342.out | refine below_set ?_ GE353.out) | exact HB.out)⟩
              · rw [if_neg c19] at H
                have c19b0 : (t341 == 0) = false := beq_eq_false_iff_ne.mpr c19
                have c19b1 : (t341 != 0) = true := bne_iff_ne.mpr c19
                have H' := Aside0.mk H
                clear H
                go_wp2
                go_roundg kj5
                case measure => have := HK1.out; have := HJ5.out; omega
                case rel => exact ⟨(wrap64 (x5_1 + 1)), (x328000_1), (x328001_1), (x328002_1), (x328003_1), (by first | rfl | (simp; done) | (simp [*]; done)), H', ⟨by have := HK1.out; have := HJ5.out; omega⟩, ⟨by (with_reducible repeat (first | refine blk_drewN ?_ _ | refine blk_drew ?_ | refine blk_alloc ?_ _)); exact BK327.out⟩, ⟨by repeat (first | (with_reducible first | exact HB.out | apply below_alloc | apply pw_below_drewN | apply below_drew1 | refine below_set ?_ GE327.out | refine below_set ?_ GE342.out) | exact HB.out)⟩⟩
      · rw [if_neg c4] at H
        have c4b0 : (t330 == 0) = false := beq_eq_false_iff_ne.mpr c4
        have c4b1 : (t330 != 0) = true := bne_iff_ne.mpr c4
        simp only [Option.some.injEq, Prod.mk.injEq] at H
        obtain ⟨rfl, rfl, rfl, rfl, rfl, rfl, rfl⟩ := H
        go_wp2_with (first | ((with_reducible refine gate_store (t := 24) (p := 2) rfl ?_); refine HW.store_box5 rfl rfl 24 _ _ rfl rfl rfl BK327.out rfl (by kernel_rfl) rfl rfl rfl rfl rfl ?_; intro w1_ hw1_ hk1_; subst hw1_; have hcb327_0 := (blk_cell hk1_ 0).trans rfl; have hfb327_0 := blk_frozen hk1_ 0; have hcb327_1 := (blk_cell hk1_ 1).trans rfl; have hfb327_1 := blk_frozen hk1_ 1; have hcb327_2 := (blk_cell hk1_ 2).trans rfl; have hfb327_2 := blk_frozen hk1_ 2; have hcb327_3 := (blk_cell hk1_ 3).trans rfl; have hfb327_3 := blk_frozen hk1_ 3; have hcb327_4 := (blk_cell hk1_ 4).trans rfl; have hfb327_4 := blk_frozen hk1_ 4; clear hk1_) | ((with_reducible refine gate_callee (f := 35) rfl ?_); refine goesL_ (some 18) rfl rfl Try.func35 (by kernel_rfl) rfl #[.slice A0 l0.length c0, .int .i64 x5_1, .bool false] rfl (by (try simp only [List.map_toArray, List.map_cons, List.map_nil]); first | done | rfl | (simp only [List.length_drop, List.length_take]; rfl)) ?_; (with_reducible refine (phaetonref05_bare.calls k1 _ _ l0 x5_1 false t328 t329 t330 _ ?side1 ?side2 A3.out).mono ?_); (case side1 => repeat (first | exact (Kd.C_below HR0.out HB.out) | (with_reducible refine Kd.C_alloc ?_ _) | (with_reducible refine Kd.C_drewN ?_ _) | (with_reducible refine Kd.C_drew ?_))); (case side2 => exact HC0.out); rintro e w29 ⟨v331, rfl, ho0, hb⟩; refine ⟨_, rfl, ?_⟩; have n0_ := Aside0.mk (Kd.R_lower ho0 (below_size (by repeat (first | (with_reducible first | exact HB.out | apply below_alloc | apply pw_below_drewN | apply below_drew1 | refine below_set ?_ GE327.out) | exact HB.out)))); have n1_ := Aside0.mk (blk_below (g := gb327) (o := .cells #[.bool x328000_1, .int .i64 x328001_1, .bool x328002_1, .int .i64 x328003_1, .slice none 0 0] 24 (0, 0)) (by (with_reducible repeat (first | refine blk_drewN ?_ _ | refine blk_drew ?_ | refine blk_alloc ?_ _)); exact BK327.out) hb); have n2_ := Aside0.mk (below_step (by repeat (first | (with_reducible first | exact HB.out | apply below_alloc | apply pw_below_drewN | apply below_drew1 | refine below_set ?_ GE327.out) | exact HB.out)) hb); clear BK327; clear HB; have HO332 := n0_; have BK327 := n1_; have HB := n2_; clear n0_ n1_ n2_; (try clear hb); (try clear hb2); (try clear hk); (try clear hi); (try clear ho0); have hcz30_0 : w29.cell? ⟨gb327, 0, none⟩ = some (.bool x328000_1) := (blk_cell BK327.out 0).trans rfl; have hcz30_1 : w29.cell? ⟨gb327, 1, none⟩ = some (.int .i64 x328001_1) := (blk_cell BK327.out 1).trans rfl; have hcz30_2 : w29.cell? ⟨gb327, 2, none⟩ = some (.bool x328002_1) := (blk_cell BK327.out 2).trans rfl; have hcz30_3 : w29.cell? ⟨gb327, 3, none⟩ = some (.int .i64 x328003_1) := (blk_cell BK327.out 3).trans rfl; have hcz30_4 : w29.cell? ⟨gb327, 4, none⟩ = some (.slice none 0 0) := (blk_cell BK327.out 4).trans rfl; have hfz30_0 := blk_frozen BK327.out 0; have hfz30_1 := blk_frozen BK327.out 1; have hfz30_2 := blk_frozen BK327.out 2; have hfz30_3 := blk_frozen BK327.out 3; have hfz30_4 := blk_frozen BK327.out 4))
        refine bodyPost_ret (results_ctt rfl _ _ gb327 24 #[.bool false, .int .i64 0, .bool false, .int .i64 0, .slice none 0 0] (0, 0) _ rfl (by (with_reducible repeat (first | refine blk_drewN ?_ _ | refine blk_drew ?_ | refine blk_alloc ?_ _)); refine HW.blk_put5 (cs := #[.bool x328000_1, .int .i64 x328001_1, .bool x328002_1, .int .i64 x328003_1, .slice none 0 0]) ?_ rfl; (with_reducible repeat (first | refine blk_drewN ?_ _ | refine blk_drew ?_ | refine blk_alloc ?_ _)); exact BK327.out) Try.underlying24 rfl (by kernel_rfl)) rfl ?_
        exact ⟨_, by first | rfl | (simp [errW_none, errW_some] <;> rfl) | (simp [*, errW_none, errW_some] <;> rfl), by first | exact Kd.R_nil _ _ _ _ _ | exact Kd.N_nil _ _ _ _ _ | exact Kd.V_nil _ _ _ _ _ | exact Kd.Q_nil _ _ _ _ _ | exact Kd.S_nil _ _ _ _ _, by repeat (first | (with_reducible first | exact HB.out | apply below_alloc | apply pw_below_drewN | apply below_drew1 | refine below_set ?_ GE327.out) | exact HB.out)⟩

end Go.Proofs.Ythgeekcobmhbfaa.Px

-- Written by myprint.py, a program of this session's, over the kit's print.py; not a text of print.sh's own.
import Derived.Test.YtfgbcpdlhdgofaaPx0
namespace Go.Proofs.Ytfgbcpdlhdgofaa.Px
open Go.RowKit Go.Proofs.YtfgbcpdlhdgofaaW.PrintWords Go.Proofs.YtfgbcpdlhdgofaaW.PrintLast Go.Proofs.YtfgbcpdlhdgofaaW.PrintMore
attribute [local go_sem] max2_int min2_int max_two min_two max_three min_three max_four min_four   -- for this text's walks alone
set_option linter.unusedVariables false
set_option linter.unusedSimpArgs false

/-! ### image_number: function 33 -/
def image_number.l0 : Nat → Int → List Int → Int → Int → Option (Int)
  | 0, _, _, _, _ => none
  | k + 1, x5, x12, x13, x14 => if x14 < x13 then (if 0 ≤ x14 then (if x14 < (x12.length : Int) then (image_number.l0 k (wrap64 ((wrap64 (x5 * 256)) + (wrap64 (rd x12 x14)))) x12 x13 (wrap64 (x14 + 1))) else (none)) else (none)) else (some x5)
def image_number.f (k : Nat) (l0 : List Int) (a1 : Int) : Option (Int) := if 0 ≤ a1 then (if a1 ≤ (wrap64 (a1 + 4)) then (if (wrap64 (a1 + 4)) ≤ (l0.length : Int) then (image_number.l0 k 0 ((l0.take ((wrap64 (a1 + 4)) : Int).toNat).drop (a1 : Int).toNat) (((l0.take ((wrap64 (a1 + 4)) : Int).toNat).drop (a1 : Int).toNat).length : Int) 0) else (none)) else (none)) else (none)
theorem image_number.mono_l : ∀ k, (∀ y0 y1 y2 y3, LeO (image_number.l0 k y0 y1 y2 y3) (image_number.l0 (k + 1) y0 y1 y2 y3))
  | 0 => fun _ _ _ _ r h => by simp [image_number.l0] at h
  | k + 1 => by
    have ih0 := image_number.mono_l k
    · intro y0 y1 y2 y3
      unfold image_number.l0
      repeat' first
      | (with_reducible exact ih0 _ _ _ _)
      | (with_reducible exact LeO.refl _)
      | (with_reducible exact LeO.none _)
      | (with_reducible refine LeO.ite ?_ ?_)
      | (with_reducible refine LeO.bind ?_ (fun _ => ?_))
      | exact ih0 _ _ _ _
      | exact LeO.none _
      | refine LeO.ite ?_ ?_
      | refine LeO.bind ?_ (fun _ => ?_)
theorem image_number.mono : ∀ a0 a1 k, LeO (image_number.f k a0 a1) (image_number.f (k + 1) a0 a1) := by
  intro a0 a1 k
  have ih0 := image_number.mono_l k
  unfold image_number.f
  repeat' first
      | (with_reducible exact ih0 _ _ _ _)
      | (with_reducible exact LeO.refl _)
      | (with_reducible exact LeO.none _)
      | (with_reducible refine LeO.ite ?_ ?_)
      | (with_reducible refine LeO.bind ?_ (fun _ => ?_))
      | exact ih0 _ _ _ _
      | exact LeO.none _
      | refine LeO.ite ?_ ?_
      | refine LeO.bind ?_ (fun _ => ?_)
set_option maxHeartbeats 8000000 in
set_option maxRecDepth 100000 in
theorem image_number.calls (k : Nat) (A0 : Option Addr) (c0 : Nat) (l0 : List Int) (a1 : Int) (r : Int) (w : World) (hr0 : Kd.C (Kd.int .u8) w A0 l0.length l0) (hc0 : l0.length ≤ c0) (h : image_number.f k l0 a1 = some r) :
    Calls Try.prog 33 #[.slice A0 l0.length c0, .int .i64 a1] w fun e w' => e = .returned (.int .i64 r) ∧ Drawn0 w w' := by
  have HR0 := Aside0.mk hr0
  have HC0 := Aside0.mk hc0
  clear hr0 hc0
  have H : (if 0 ≤ a1 then (if a1 ≤ (wrap64 (a1 + 4)) then (if (wrap64 (a1 + 4)) ≤ (l0.length : Int) then (image_number.l0 k 0 ((l0.take ((wrap64 (a1 + 4)) : Int).toNat).drop (a1 : Int).toNat) (((l0.take ((wrap64 (a1 + 4)) : Int).toNat).drop (a1 : Int).toNat).length : Int) 0) else (none)) else (none)) else (none)) = some r := h
  clear h
  by_cases c3 : 0 ≤ a1
  · rw [if_pos c3] at H
    have c3b0 := eq_true c3
    have c3b1 : decide (0 ≤ a1) = true := decide_eq_true c3
    clear c3
    by_cases c4 : a1 ≤ (wrap64 (a1 + 4))
    · rw [if_pos c4] at H
      have c4b0 := eq_true c4
      have c4b1 : decide (a1 ≤ (wrap64 (a1 + 4))) = true := decide_eq_true c4
      by_cases c5 : (wrap64 (a1 + 4)) ≤ (l0.length : Int)
      · rw [if_pos c5] at H
        have c5b0 := eq_true c5
        have c5b1 : decide ((wrap64 (a1 + 4)) ≤ (l0.length : Int)) = true := decide_eq_true c5
        have H' := Aside0.mk H
        clear H
        obtain ⟨i06, hi06, _, hsz6, _⟩ := info_parts info5
        obtain ⟨A6, hcut6, hA6, hC6⟩ := print_mid_of (P := Try.prog) (Value.int .u8) 0 22 5 .i64 .i64 Try.underlying22 hi06 hsz6 A0 c0 l0 a1 (wrap64 (a1 + 4)) (of_decide_eq_true (by first | (with_reducible assumption) | assumption)) (by first | omega | exact of_decide_eq_true (by first | (with_reducible assumption) | assumption)) (of_decide_eq_true (by first | (with_reducible assumption) | assumption)) HC0.out
        have HR120 := Aside0.mk (Kd.C_of_reads (h1 := fun _ => rfl) (hA6 _ (Kd.reads_of_C HR0.out)))
        have HC120 := Aside0.mk hC6
        clear hA6 hC6 hi06 hsz6
        have HL_ := Aside0.mk (show ((l0.take ((wrap64 (a1 + 4)) : Int).toNat).drop (a1 : Int).toNat).length = (wrap64 (a1 + 4)).toNat - a1.toNat from (by have h1_ : a1 ≤ (wrap64 (a1 + 4)) := of_decide_eq_true (by first | (with_reducible assumption) | assumption); have h2_ : (wrap64 (a1 + 4)) ≤ (l0.length : Int) := of_decide_eq_true (by first | (with_reducible assumption) | assumption); rw [List.length_drop, List.length_take]; omega))
        go_enter Try.func33, Try.ntmps33
        go_wp2
        go_loopg [5, 14] k (fun kq v5 v14 w' => ∃ (x5_1 : Int) (x14_1 : Int), v5 = .int .i64 x5_1 ∧ v14 = .int .i64 x14_1 ∧ Aside0 (image_number.l0 kq x5_1 ((l0.take ((wrap64 (a1 + 4)) : Int).toNat).drop (a1 : Int).toNat) (((l0.take ((wrap64 (a1 + 4)) : Int).toNat).drop (a1 : Int).toNat).length : Int) x14_1 = some r) ∧ Aside0 (kq ≤ k) ∧ Drawn0 w w')
        case atStart => exact ⟨(0), (0), (by first | rfl | (simp; done) | (simp [*]; done)), (by first | rfl | (simp; done) | (simp [*]; done)), H', ⟨Nat.le_refl _⟩, by repeat (first | exact Drawn0.refl _ | apply Drawn0.step)⟩
        case round =>
          clear H'
          try clear p2
          try clear c3
          try clear c3b0
          try clear c3b1
          try clear c4
          try clear c4b0
          try clear c4b1
          try clear c5
          try clear c5b0
          try clear c5b1
          try clear p6
          obtain ⟨x5_1, x14_1, rfl, rfl, HA, HK1, ⟨m1, rfl⟩⟩ := hrel
          cases gk with
          | zero => exact absurd HA.out (by simp [image_number.l0])
          | succ k1 =>
            have H := HA.out
            clear HA
            simp only [image_number.l0] at H
            by_cases c7 : x14_1 < (((l0.take ((wrap64 (a1 + 4)) : Int).toNat).drop (a1 : Int).toNat).length : Int)
            · rw [if_pos c7] at H
              have c7b0 : decide (x14_1 < (((l0.take ((wrap64 (a1 + 4)) : Int).toNat).drop (a1 : Int).toNat).length : Int)) = true := decide_eq_true c7
              have c7b09 := c7b0
              rw [HL_.out] at c7b09
              clear c7
              by_cases c8 : 0 ≤ x14_1
              · rw [if_pos c8] at H
                have c8b0 : decide (0 ≤ x14_1) = true := decide_eq_true c8
                clear c8
                by_cases c9 : x14_1 < (((l0.take ((wrap64 (a1 + 4)) : Int).toNat).drop (a1 : Int).toNat).length : Int)
                · rw [if_pos c9] at H
                  have c9b0 : decide (x14_1 < (((l0.take ((wrap64 (a1 + 4)) : Int).toNat).drop (a1 : Int).toNat).length : Int)) = true := decide_eq_true c9
                  have c9b09 := c9b0
                  rw [HL_.out] at c9b09
                  clear c9
                  have H' := Aside0.mk H
                  clear H
                  have p121 : 0 ≤ (x14_1 : Int) := of_decide_eq_true (by first | (with_reducible assumption) | assumption)
                  have q121 : x14_1 < (((l0.take ((wrap64 (a1 + 4)) : Int).toNat).drop (a1 : Int).toNat).length : Int) := of_decide_eq_true (by first | (with_reducible assumption) | assumption)
                  obtain ⟨ad121, e121, hx121_0⟩ := Kd.at_int HR120.out x14_1 p121 q121
                  cases e121
                  replace p121 := eq_true p121
                  replace q121 := eq_true q121
                  have q1219 := q121
                  rw [HL_.out] at q1219
                  go_wp2
                  go_roundg k1
                  case measure => have := HK1.out; omega
                  case rel => exact ⟨(wrap64 ((wrap64 (x5_1 * 256)) + (wrap64 (rd ((l0.take ((wrap64 (a1 + 4)) : Int).toNat).drop (a1 : Int).toNat) x14_1)))), (wrap64 (x14_1 + 1)), (by first | rfl | (simp; done) | (simp [*]; done)), (by first | rfl | (simp; done) | (simp [*]; done)), H', ⟨by have := HK1.out; omega⟩, by repeat (first | exact Drawn0.refl _ | apply Drawn0.step)⟩
                · exfalso; (try simp only [decide_eq_true_eq, decide_eq_false_iff_not, beq_iff_eq, beq_eq_false_iff_ne, ne_eq] at c7b0); omega
              · rw [if_neg c8] at H
                exact absurd H (by simp)
            · rw [if_neg c7] at H
              have c7b0 : decide (x14_1 < (((l0.take ((wrap64 (a1 + 4)) : Int).toNat).drop (a1 : Int).toNat).length : Int)) = false := decide_eq_false c7
              have c7b09 := c7b0
              rw [HL_.out] at c7b09
              clear c7
              obtain rfl := Option.some.inj H
              go_wp2
              go_ret
              exact ⟨by first | rfl | (simp; done) | (simp [*]; done), by repeat (first | exact Drawn0.refl _ | apply Drawn0.step)⟩
      · rw [if_neg c5] at H
        exact absurd H (by simp)
    · rw [if_neg c4] at H
      exact absurd H (by simp)
  · rw [if_neg c3] at H
    exact absurd H (by simp)

end Go.Proofs.Ytfgbcpdlhdgofaa.Px

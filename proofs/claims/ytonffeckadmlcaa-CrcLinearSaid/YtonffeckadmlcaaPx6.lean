-- Written by myprint.py, a program of this session's, over the kit's print.py; not a text of print.sh's own.
import Derived.Test.YtonffeckadmlcaaPx0
import Derived.Test.YtonffeckadmlcaaPx1
import Derived.Test.YtonffeckadmlcaaPx2
namespace Go.Proofs.Ytonffeckadmlcaa.Px
open Go.RowKit Go.Proofs.YtonffeckadmlcaaW.PrintWords Go.Proofs.YtonffeckadmlcaaW.PrintLast Go.Proofs.YtonffeckadmlcaaW.PrintMore
attribute [local go_sem] max2_int min2_int max_two min_two max_three min_three max_four min_four   -- for this text's walks alone
set_option linter.unusedVariables false
set_option linter.unusedSimpArgs false

/-! ### phaetonlaw02_CrcLinear: function 7 -/
def phaetonlaw02_CrcLinear.l0 : Nat → Bool → Int → List Int → List Int → List Int → List Int → Int → Option (Bool)
  | 0, _, _, _, _, _, _, _ => none
  | k + 1, x7, x8, x9, x10, x11, x12, x13 => if x13 < x8 then (if 0 ≤ x13 then (if x13 < (x9.length : Int) then (if x13 < (x10.length : Int) then (if x13 < (x11.length : Int) then (if x12.length < 140737488355328 then (phaetonlaw02_CrcLinear.l0 k x7 x8 x9 x10 x11 (x12 ++ [Go.bits .xor .u8 (Go.bits .xor .u8 (rd x9 x13) (rd x10 x13)) (rd x11 x13)]) (wrap64 (x13 + 1))) else (none)) else (none)) else (none)) else (none)) else (none)) else (if x7 = true then ((crc_Byte.f x12).bind fun t217 => ((crc_Byte.f x9).bind fun t218 => ((crc_Byte.f x10).bind fun t219 => ((crc_Byte.f x11).bind fun t220 => (if t217 = (Go.bits .xor .i64 (Go.bits .xor .i64 t218 t219) t220) then ((crc_Word.f x12).bind fun t221 => ((crc_Word.f x9).bind fun t222 => ((crc_Word.f x10).bind fun t223 => ((crc_Word.f x11).bind fun t224 => (if t221 = (Go.bits .xor .i64 (Go.bits .xor .i64 t222 t223) t224) then ((phaetonref01_Spread.f k x12).bind fun t225 => ((crc_Bits.f t225).bind fun t228 => ((phaetonref01_Spread.f k x9).bind fun t229 => ((crc_Bits.f t229).bind fun t232 => ((phaetonref01_Spread.f k x10).bind fun t233 => ((crc_Bits.f t233).bind fun t236 => ((phaetonref01_Spread.f k x11).bind fun t237 => ((crc_Bits.f t237).bind fun t240 => (if t228 = (Go.bits .xor .i64 (Go.bits .xor .i64 t232 t236) t240) then (some true) else (none)))))))))) else (none)))))) else (none)))))) else (none))
def phaetonlaw02_CrcLinear.f (k : Nat) (l0 : List Int) (l1 : List Int) (l2 : List Int) : Option (Bool) := (phaetonlaw02_head.f k).bind fun t207 => (if 0 ≤ (mn (mn (mn (l0.length : Int) (l1.length : Int)) (l2.length : Int)) 300) then (if (mn (mn (mn (l0.length : Int) (l1.length : Int)) (l2.length : Int)) 300) ≤ (l0.length : Int) then (if (mn (mn (mn (l0.length : Int) (l1.length : Int)) (l2.length : Int)) 300) ≤ (l1.length : Int) then (if (mn (mn (mn (l0.length : Int) (l1.length : Int)) (l2.length : Int)) 300) ≤ (l2.length : Int) then (phaetonlaw02_CrcLinear.l0 k t207 (mn (mn (mn (l0.length : Int) (l1.length : Int)) (l2.length : Int)) 300) (l0.take ((mn (mn (mn (l0.length : Int) (l1.length : Int)) (l2.length : Int)) 300) : Int).toNat) (l1.take ((mn (mn (mn (l0.length : Int) (l1.length : Int)) (l2.length : Int)) 300) : Int).toNat) (l2.take ((mn (mn (mn (l0.length : Int) (l1.length : Int)) (l2.length : Int)) 300) : Int).toNat) ([] : List Int) 0) else (none)) else (none)) else (none)) else (none))
theorem phaetonlaw02_CrcLinear.mono_l : ∀ k, (∀ y0 y1 y2 y3 y4 y5 y6, LeO (phaetonlaw02_CrcLinear.l0 k y0 y1 y2 y3 y4 y5 y6) (phaetonlaw02_CrcLinear.l0 (k + 1) y0 y1 y2 y3 y4 y5 y6))
  | 0 => fun _ _ _ _ _ _ _ r h => by simp [phaetonlaw02_CrcLinear.l0] at h
  | k + 1 => by
    have ih0 := phaetonlaw02_CrcLinear.mono_l k
    · intro y0 y1 y2 y3 y4 y5 y6
      unfold phaetonlaw02_CrcLinear.l0
      repeat' first
      | (with_reducible exact ih0 _ _ _ _ _ _ _)
      | (with_reducible exact phaetonlaw02_head.mono _)
      | (with_reducible exact phaetonref01_Spread.mono _ _)
      | (with_reducible exact LeO.refl _)
      | (with_reducible exact LeO.none _)
      | (with_reducible refine LeO.ite ?_ ?_)
      | (with_reducible refine LeO.bind ?_ (fun _ => ?_))
      | exact ih0 _ _ _ _ _ _ _
      | exact phaetonlaw02_head.mono _
      | exact phaetonref01_Spread.mono _ _
      | exact LeO.none _
      | refine LeO.ite ?_ ?_
      | refine LeO.bind ?_ (fun _ => ?_)
theorem phaetonlaw02_CrcLinear.mono : ∀ a0 a1 a2 k, LeO (phaetonlaw02_CrcLinear.f k a0 a1 a2) (phaetonlaw02_CrcLinear.f (k + 1) a0 a1 a2) := by
  intro a0 a1 a2 k
  have ih0 := phaetonlaw02_CrcLinear.mono_l k
  unfold phaetonlaw02_CrcLinear.f
  repeat' first
      | (with_reducible exact ih0 _ _ _ _ _ _ _)
      | (with_reducible exact phaetonlaw02_head.mono _)
      | (with_reducible exact phaetonref01_Spread.mono _ _)
      | (with_reducible exact LeO.refl _)
      | (with_reducible exact LeO.none _)
      | (with_reducible refine LeO.ite ?_ ?_)
      | (with_reducible refine LeO.bind ?_ (fun _ => ?_))
      | exact ih0 _ _ _ _ _ _ _
      | exact phaetonlaw02_head.mono _
      | exact phaetonref01_Spread.mono _ _
      | exact LeO.none _
      | refine LeO.ite ?_ ?_
      | refine LeO.bind ?_ (fun _ => ?_)
def phaetonlaw02_CrcLinear.T10 : Bool × List (List Nat × List Nat) := (true, [([], []), ([], []), ([], []), ([1, 2], [1, 2]), ([3], [3]), ([], []), ([], []), ([5, 6], [5, 6]), ([7], [7]), ([4, 8], [4, 8]), ([], []), ([], []), ([10, 11], [10, 11]), ([12], [12]), ([9, 13], [9, 13]), ([14], [14]), ([0, 15], [0, 15]), ([16, 16, 0, 1, 2, 3, 4, 5, 6, 7, 8, 9, 10, 11, 12, 13, 14, 15, 16], [0, 16])])
def phaetonlaw02_CrcLinear.B10 : List Nat := [0, 0, 0, 6, 14, 0, 0, 96, 224, 510, 0, 0, 3072, 7168, 16382, 32766, 65535, 131071]
theorem phaetonlaw02_CrcLinear.tab10 : rtab .any (opsOf Try.f7 10) = phaetonlaw02_CrcLinear.T10 := by kernel_rfl
theorem phaetonlaw02_CrcLinear.bits10 : waitsOk phaetonlaw02_CrcLinear.T10.2 phaetonlaw02_CrcLinear.B10 = true := by kernel_rfl
set_option maxHeartbeats 8000000 in
set_option maxRecDepth 100000 in
theorem phaetonlaw02_CrcLinear.calls (k : Nat) (A0 : Option Addr) (c0 : Nat) (l0 : List Int) (A1 : Option Addr) (c1 : Nat) (l1 : List Int) (A2 : Option Addr) (c2 : Nat) (l2 : List Int) (r : Bool) (w : World) (hr0 : Kd.C (Kd.int .u8) w A0 l0.length l0) (hc0 : l0.length ≤ c0) (hr1 : Kd.C (Kd.int .u8) w A1 l1.length l1) (hc1 : l1.length ≤ c1) (hr2 : Kd.C (Kd.int .u8) w A2 l2.length l2) (hc2 : l2.length ≤ c2) (h : phaetonlaw02_CrcLinear.f k l0 l1 l2 = some r) :
    Calls Try.prog 7 #[.slice A0 l0.length c0, .slice A1 l1.length c1, .slice A2 l2.length c2] w fun e w' => e = .returned (.bool r) ∧ Below w.heap.size w w' := by
  have HR0 := Aside0.mk hr0
  have HC0 := Aside0.mk hc0
  clear hr0 hc0
  have HR1 := Aside0.mk hr1
  have HC1 := Aside0.mk hc1
  clear hr1 hc1
  have HR2 := Aside0.mk hr2
  have HC2 := Aside0.mk hc2
  clear hr2 hc2
  have HB := Aside0.mk (Below.refl w.heap.size w)
  have H : ((phaetonlaw02_head.f k).bind fun t207 => (if 0 ≤ (mn (mn (mn (l0.length : Int) (l1.length : Int)) (l2.length : Int)) 300) then (if (mn (mn (mn (l0.length : Int) (l1.length : Int)) (l2.length : Int)) 300) ≤ (l0.length : Int) then (if (mn (mn (mn (l0.length : Int) (l1.length : Int)) (l2.length : Int)) 300) ≤ (l1.length : Int) then (if (mn (mn (mn (l0.length : Int) (l1.length : Int)) (l2.length : Int)) 300) ≤ (l2.length : Int) then (phaetonlaw02_CrcLinear.l0 k t207 (mn (mn (mn (l0.length : Int) (l1.length : Int)) (l2.length : Int)) 300) (l0.take ((mn (mn (mn (l0.length : Int) (l1.length : Int)) (l2.length : Int)) 300) : Int).toNat) (l1.take ((mn (mn (mn (l0.length : Int) (l1.length : Int)) (l2.length : Int)) 300) : Int).toNat) (l2.take ((mn (mn (mn (l0.length : Int) (l1.length : Int)) (l2.length : Int)) 300) : Int).toNat) ([] : List Int) 0) else (none)) else (none)) else (none)) else (none))) = some r := h
  clear h
  replace H := Option.bind_eq_some_iff.mp H
  obtain ⟨t207, A40, H⟩ := H
  replace H : (if 0 ≤ (mn (mn (mn (l0.length : Int) (l1.length : Int)) (l2.length : Int)) 300) then (if (mn (mn (mn (l0.length : Int) (l1.length : Int)) (l2.length : Int)) 300) ≤ (l0.length : Int) then (if (mn (mn (mn (l0.length : Int) (l1.length : Int)) (l2.length : Int)) 300) ≤ (l1.length : Int) then (if (mn (mn (mn (l0.length : Int) (l1.length : Int)) (l2.length : Int)) 300) ≤ (l2.length : Int) then (phaetonlaw02_CrcLinear.l0 k t207 (mn (mn (mn (l0.length : Int) (l1.length : Int)) (l2.length : Int)) 300) (l0.take ((mn (mn (mn (l0.length : Int) (l1.length : Int)) (l2.length : Int)) 300) : Int).toNat) (l1.take ((mn (mn (mn (l0.length : Int) (l1.length : Int)) (l2.length : Int)) 300) : Int).toNat) (l2.take ((mn (mn (mn (l0.length : Int) (l1.length : Int)) (l2.length : Int)) 300) : Int).toNat) ([] : List Int) 0) else (none)) else (none)) else (none)) else (none)) = some r := H
  have A4 := Aside0.mk A40
  clear A40
  obtain ⟨ji5, hji5⟩ : ∃ j_ : Int, (mn (l0.length : Int) (l1.length : Int)) = j_ := ⟨_, rfl⟩
  replace H : (if 0 ≤ (mn (mn (ji5) (l2.length : Int)) 300) then (if (mn (mn (ji5) (l2.length : Int)) 300) ≤ (l0.length : Int) then (if (mn (mn (ji5) (l2.length : Int)) 300) ≤ (l1.length : Int) then (if (mn (mn (ji5) (l2.length : Int)) 300) ≤ (l2.length : Int) then (phaetonlaw02_CrcLinear.l0 k t207 (mn (mn (ji5) (l2.length : Int)) 300) (l0.take ((mn (mn (ji5) (l2.length : Int)) 300) : Int).toNat) (l1.take ((mn (mn (ji5) (l2.length : Int)) 300) : Int).toNat) (l2.take ((mn (mn (ji5) (l2.length : Int)) 300) : Int).toNat) ([] : List Int) 0) else (none)) else (none)) else (none)) else (none)) = some r := by first | (rw [hji5] at H; exact H) | (simp only [hji5] at H ⊢; exact H)
  (try rw [hji5] at A4)
  (try (have hji5l : 0 ≤ ji5 := by (rw [← hji5]; unfold mn; (repeat' split) <;> omega)))
  (try (have hji5m : 0 ≤ ji5 := by omega))
  have hji5_ : (if (l1.length : Int) < (l0.length : Int) then (l1.length : Int) else (l0.length : Int)) = ji5 := hji5
  have hji5n : (if l1.length < l0.length then (l1.length : Int) else (l0.length : Int)) = ji5 := by rw [← hji5_]; simp only [Int.ofNat_lt]
  obtain ⟨ji6, hji6⟩ : ∃ j_ : Int, (mn (ji5) (l2.length : Int)) = j_ := ⟨_, rfl⟩
  replace H : (if 0 ≤ (mn (ji6) 300) then (if (mn (ji6) 300) ≤ (l0.length : Int) then (if (mn (ji6) 300) ≤ (l1.length : Int) then (if (mn (ji6) 300) ≤ (l2.length : Int) then (phaetonlaw02_CrcLinear.l0 k t207 (mn (ji6) 300) (l0.take ((mn (ji6) 300) : Int).toNat) (l1.take ((mn (ji6) 300) : Int).toNat) (l2.take ((mn (ji6) 300) : Int).toNat) ([] : List Int) 0) else (none)) else (none)) else (none)) else (none)) = some r := by first | (rw [hji6] at H; exact H) | (simp only [hji6] at H ⊢; exact H)
  (try rw [hji6] at A4)
  have hji6_ : (if (l2.length : Int) < (ji5) then (l2.length : Int) else (ji5)) = ji6 := hji6
  obtain ⟨ji7, hji7⟩ : ∃ j_ : Int, (mn (ji6) 300) = j_ := ⟨_, rfl⟩
  replace H : (if 0 ≤ (ji7) then (if (ji7) ≤ (l0.length : Int) then (if (ji7) ≤ (l1.length : Int) then (if (ji7) ≤ (l2.length : Int) then (phaetonlaw02_CrcLinear.l0 k t207 ji7 (l0.take ((ji7) : Int).toNat) (l1.take ((ji7) : Int).toNat) (l2.take ((ji7) : Int).toNat) ([] : List Int) 0) else (none)) else (none)) else (none)) else (none)) = some r := by first | (rw [hji7] at H; exact H) | (simp only [hji7] at H ⊢; exact H)
  (try rw [hji7] at A4)
  have hji7_ : (if 300 < (ji6) then 300 else (ji6)) = ji7 := hji7
  by_cases c8 : 0 ≤ (ji7)
  · rw [if_pos c8] at H
    have c8b0 := eq_true c8
    have c8b1 : decide (0 ≤ (ji7)) = true := decide_eq_true c8
    have c8m : max (ji7) 0 = (ji7) := by omega
    clear c8
    by_cases c9 : (ji7) ≤ (l0.length : Int)
    · rw [if_pos c9] at H
      have LT_l0_ji7 := Aside0.mk (show (l0.take ((ji7) : Int).toNat).length = ((ji7) : Int).toNat from by rw [List.length_take]; omega)
      have c9b0 := eq_true c9
      have c9b1 : decide ((ji7) ≤ (l0.length : Int)) = true := decide_eq_true c9
      clear c9
      have c10b0 := eq_true (of_decide_eq_true (by first | (with_reducible assumption) | assumption) : 0 ≤ (ji7))
      by_cases c11 : (ji7) ≤ (l1.length : Int)
      · rw [if_pos c11] at H
        have LT_l1_ji7 := Aside0.mk (show (l1.take ((ji7) : Int).toNat).length = ((ji7) : Int).toNat from by rw [List.length_take]; omega)
        have c11b0 := eq_true c11
        have c11b1 : decide ((ji7) ≤ (l1.length : Int)) = true := decide_eq_true c11
        clear c11
        have c12b0 := eq_true (of_decide_eq_true (by first | (with_reducible assumption) | assumption) : 0 ≤ (ji7))
        by_cases c13 : (ji7) ≤ (l2.length : Int)
        · rw [if_pos c13] at H
          have LT_l2_ji7 := Aside0.mk (show (l2.take ((ji7) : Int).toNat).length = ((ji7) : Int).toNat from by rw [List.length_take]; omega)
          have c13b0 := eq_true c13
          have c13b1 : decide ((ji7) ≤ (l2.length : Int)) = true := decide_eq_true c13
          clear c13
          have H' := Aside0.mk H
          clear H
          go_enter Try.func7, Try.ntmps7
          go_wp2_with (first | ((with_reducible refine gate_callee (f := 10) rfl ?_); refine goesL_ (some 14) rfl rfl Try.func10 (by kernel_rfl) rfl #[] rfl (by (try simp only [List.map_toArray, List.map_cons, List.map_nil]); first | done | rfl | (simp only [List.length_drop, List.length_take]; rfl)) ?_; (with_reducible refine (phaetonlaw02_head.calls k  t207 _ A4.out).mono ?_); rintro e w14 ⟨rfl, hb⟩; refine ⟨_, rfl, ?_⟩; have n0_ := Aside0.mk (below_step (by repeat (first | (with_reducible first | exact HB.out | apply below_alloc | apply pw_below_drewN | apply below_drew1) | exact HB.out)) hb); clear HB; have HB := n0_; clear n0_; (try clear hb); (try clear hb2); (try clear hk); (try clear hi); obtain ⟨i015, hi015, _, hsz15, _⟩ := info_parts info5; obtain ⟨hcut15, hA15, hC15⟩ := print_take_of (P := Try.prog) (Value.int .u8) 0 23 5 .i64 Try.underlying23 hi015 hsz15 A0 c0 l0 (ji7) (of_decide_eq_true (by first | (with_reducible assumption) | assumption)) (of_decide_eq_true (by first | (with_reducible assumption) | assumption)) HC0.out; have HR208 := Aside0.mk (Kd.C_of_reads (h1 := fun _ => rfl) (hA15 _ (Kd.reads_of_C HR0.out))); have HC208 := Aside0.mk hC15; clear hA15 hC15 hi015 hsz15; obtain ⟨i016, hi016, _, hsz16, _⟩ := info_parts info5; obtain ⟨hcut16, hA16, hC16⟩ := print_take_of (P := Try.prog) (Value.int .u8) 0 23 5 .i64 Try.underlying23 hi016 hsz16 A1 c1 l1 (ji7) (of_decide_eq_true (by first | (with_reducible assumption) | assumption)) (of_decide_eq_true (by first | (with_reducible assumption) | assumption)) HC1.out; have HR209 := Aside0.mk (Kd.C_of_reads (h1 := fun _ => rfl) (hA16 _ (Kd.reads_of_C HR1.out))); have HC209 := Aside0.mk hC16; clear hA16 hC16 hi016 hsz16; obtain ⟨i017, hi017, _, hsz17, _⟩ := info_parts info5; obtain ⟨hcut17, hA17, hC17⟩ := print_take_of (P := Try.prog) (Value.int .u8) 0 23 5 .i64 Try.underlying23 hi017 hsz17 A2 c2 l2 (ji7) (of_decide_eq_true (by first | (with_reducible assumption) | assumption)) (of_decide_eq_true (by first | (with_reducible assumption) | assumption)) HC2.out; have HR210 := Aside0.mk (Kd.C_of_reads (h1 := fun _ => rfl) (hA17 _ (Kd.reads_of_C HR2.out))); have HC210 := Aside0.mk hC17; clear hA17 hC17 hi017 hsz17))
          go_loopg [12, 13] k (fun kq v12 v13 w' => ∃ (x12_1 : List Int) (x13_1 : Int), v13 = .int .i64 x13_1 ∧ Aside0 (phaetonlaw02_CrcLinear.l0 kq t207 ji7 (l0.take ((ji7) : Int).toNat) (l1.take ((ji7) : Int).toNat) (l2.take ((ji7) : Int).toNat) x12_1 x13_1 = some r) ∧ Aside0 (kq ≤ k) ∧ Aside0 (Kd.R (Kd.int .u8) 5 w' w.heap.size (fun _ => True) v12 x12_1) ∧ Aside0 (Below w.heap.size w w'))
          case atStart => exact ⟨(([] : List Int)), (0), (by first | rfl | (simp; done) | (simp [*]; done)), H', ⟨Nat.le_refl _⟩, ⟨by first | exact Kd.R_nil _ _ _ _ _ | exact Kd.N_nil _ _ _ _ _ | exact Kd.V_nil _ _ _ _ _ | exact Kd.Q_nil _ _ _ _ _ | exact Kd.S_nil _ _ _ _ _⟩, ⟨by repeat (first | (with_reducible first | exact HB.out | apply below_alloc | apply pw_below_drewN | apply below_drew1) | exact HB.out)⟩⟩
          case round =>
            clear H'
            try clear c1
            try clear c2
            try clear p2
            try clear c7
            try clear c8
            try clear c8b0
            try clear c8b1
            try clear c9
            try clear c9b0
            try clear c9b1
            try clear c10
            try clear c10b0
            try clear c11
            try clear c11b0
            try clear c11b1
            try clear c12
            try clear c12b0
            try clear c13
            try clear c13b0
            try clear c13b1
            obtain ⟨x12_1, x13_1, rfl, HA, HK1, HO_12, HB⟩ := hrel
            cases gk with
            | zero => exact absurd HA.out (by simp [phaetonlaw02_CrcLinear.l0])
            | succ k1 =>
              have H := HA.out
              clear HA
              simp only [phaetonlaw02_CrcLinear.l0] at H
              by_cases c18 : x13_1 < ji7
              · rw [if_pos c18] at H
                have c18b0 : decide (x13_1 < ji7) = true := decide_eq_true c18
                have c18p := eq_true c18
                clear c18
                by_cases c19 : 0 ≤ x13_1
                · rw [if_pos c19] at H
                  have c19b0 : decide (0 ≤ x13_1) = true := decide_eq_true c19
                  clear c19
                  by_cases c20 : x13_1 < ((l0.take ((ji7) : Int).toNat).length : Int)
                  · rw [if_pos c20] at H
                    have c20b0 : decide (x13_1 < ((l0.take ((ji7) : Int).toNat).length : Int)) = true := decide_eq_true c20
                    clear c20
                    by_cases c21 : x13_1 < ((l1.take ((ji7) : Int).toNat).length : Int)
                    · rw [if_pos c21] at H
                      have c21b0 : decide (x13_1 < ((l1.take ((ji7) : Int).toNat).length : Int)) = true := decide_eq_true c21
                      clear c21
                      by_cases c22 : x13_1 < ((l2.take ((ji7) : Int).toNat).length : Int)
                      · rw [if_pos c22] at H
                        have c22b0 : decide (x13_1 < ((l2.take ((ji7) : Int).toNat).length : Int)) = true := decide_eq_true c22
                        clear c22
                        by_cases c23 : x12_1.length < 140737488355328
                        · rw [if_pos c23] at H
                          have LMc23 := Aside0.mk c23
                          clear c23
                          obtain ⟨y214, hy214⟩ : ∃ y_ : List Int, y_ = (x12_1 ++ [Go.bits .xor .u8 (Go.bits .xor .u8 (rd (l0.take ((ji7) : Int).toNat) x13_1) (rd (l1.take ((ji7) : Int).toNat) x13_1)) (rd (l2.take ((ji7) : Int).toNat) x13_1)]) := ⟨_, rfl⟩
                          replace H : (phaetonlaw02_CrcLinear.l0 k1 t207 ji7 (l0.take ((ji7) : Int).toNat) (l1.take ((ji7) : Int).toNat) (l2.take ((ji7) : Int).toNat) y214 (wrap64 (x13_1 + 1))) = some r := by first | (rw [hy214]; with_reducible exact H) | (have H2_ := (Option.bind_some _ _).symm.trans H; rw [hy214]; with_reducible exact H2_) | (have H2_ := (Option.bind_some _ _).symm.trans H; with_reducible exact H2_) | with_reducible exact H | (rw [hy214]; exact H) | exact H
                          have Ny214 := Aside0.mk hy214
                          clear hy214
                          have H' := Aside0.mk H
                          clear H
                          try go_wp2
                          have n0_ := Aside0.mk (Kd.R_drew HO_12.out)
                          have n1_ := Aside0.mk (below_drew1 HB.out)
                          clear HO_12
                          clear HB
                          have HO_12 := n0_
                          have HB := n1_
                          clear n0_ n1_
                          have p211 : 0 ≤ (x13_1 : Int) := of_decide_eq_true (by first | (with_reducible assumption) | assumption)
                          have q211 : x13_1 < ((l0.take ((ji7) : Int).toNat).length : Int) := of_decide_eq_true (by first | (with_reducible assumption) | assumption)
                          obtain ⟨ad211, e211, hx211_0⟩ := Kd.at_int HR208.out x13_1 p211 q211
                          have hw211_0 := hx211_0
                          cases e211
                          replace hx211_0 := (HB.out.cell (World.block_lt_of_cell? w _ hx211_0)).trans hx211_0
                          replace p211 := eq_true p211
                          replace q211 := eq_true q211
                          have p212 : 0 ≤ (x13_1 : Int) := of_decide_eq_true (by first | (with_reducible assumption) | assumption)
                          have q212 : x13_1 < ((l1.take ((ji7) : Int).toNat).length : Int) := of_decide_eq_true (by first | (with_reducible assumption) | assumption)
                          obtain ⟨ad212, e212, hx212_0⟩ := Kd.at_int HR209.out x13_1 p212 q212
                          have hw212_0 := hx212_0
                          cases e212
                          replace hx212_0 := (HB.out.cell (World.block_lt_of_cell? w _ hx212_0)).trans hx212_0
                          replace p212 := eq_true p212
                          replace q212 := eq_true q212
                          have p213 : 0 ≤ (x13_1 : Int) := of_decide_eq_true (by first | (with_reducible assumption) | assumption)
                          have q213 : x13_1 < ((l2.take ((ji7) : Int).toNat).length : Int) := of_decide_eq_true (by first | (with_reducible assumption) | assumption)
                          obtain ⟨ad213, e213, hx213_0⟩ := Kd.at_int HR210.out x13_1 p213 q213
                          have hw213_0 := hx213_0
                          cases e213
                          replace hx213_0 := (HB.out.cell (World.block_lt_of_cell? w _ hx213_0)).trans hx213_0
                          replace p213 := eq_true p213
                          replace q213 := eq_true q213
                          refine start_ (n := 18) (S := fun w' => w'.cell? (ad211.add (x13_1).toNat) = some (.int .u8 (rd (l0.take ((ji7) : Int).toNat) x13_1)) ∧ w'.cell? (ad212.add (x13_1).toNat) = some (.int .u8 (rd (l1.take ((ji7) : Int).toNat) x13_1)) ∧ w'.cell? (ad213.add (x13_1).toNat) = some (.int .u8 (rd (l2.take ((ji7) : Int).toNat) x13_1))) (ds := []) #[false, false, false, false, false, false, false, false, false, false, false, false, false, false, false, false, false, false] (by kernel_rfl) rfl rfl ⟨((HB.out.cell (World.block_lt_of_cell? w _ hw211_0)).trans hw211_0), ((HB.out.cell (World.block_lt_of_cell? w _ hw212_0)).trans hw212_0), ((HB.out.cell (World.block_lt_of_cell? w _ hw213_0)).trans hw213_0)⟩ (fun hHeld => ?_); refine with_tabW phaetonlaw02_CrcLinear.tab10 phaetonlaw02_CrcLinear.bits10 (fun HT_ HW_ => ?_)
                          generalize wr.drew = w24 at HO_12 HB hx211_0 hx212_0 hx213_0 hHeld ⊢
                          refine pure_ (i := 0) (N := some 36) (v := ?_) (a' := ?_) #[true, false, false, false, false, false, false, false, false, false, false, false, false, false, false, false, false, false] rfl rfl (any_of HT_.out (by kernel_rfl)) (fun _ _ _ h => h) (Or.inl ⟨by rfl, ?_⟩) ?_ ?_
                          rotate_left
                          · intro w'
                            go_simp
                            with_reducible rfl
                          rotate_left
                          · simp only [Act.put, List.setIfInBounds_toArray, List.set_cons_zero, List.set_cons_succ, i64_w, i32_w]
                            rfl
                          refine pure_ (i := 1) (N := some 37) (v := ?_) (a' := ?_) #[true, true, false, false, false, false, false, false, false, false, false, false, false, false, false, false, false, false] rfl rfl (any_of HT_.out (by kernel_rfl)) (fun _ _ _ h => h) (Or.inl ⟨by rfl, ?_⟩) ?_ ?_
                          rotate_left
                          · intro w'
                            go_simp
                            with_reducible rfl
                          rotate_left
                          · simp only [Act.put, List.setIfInBounds_toArray, List.set_cons_zero, List.set_cons_succ, i64_w, i32_w]
                            rfl
                          refine pure_ (i := 2) (N := some 38) (v := ?_) (a' := ?_) #[true, true, true, false, false, false, false, false, false, false, false, false, false, false, false, false, false, false] rfl rfl (any_of HT_.out (by kernel_rfl)) (fun _ _ _ h => h) (Or.inl ⟨by rfl, ?_⟩) ?_ ?_
                          rotate_left
                          · intro w'
                            go_simp
                            with_reducible rfl
                          rotate_left
                          · simp only [Act.put, List.setIfInBounds_toArray, List.set_cons_zero, List.set_cons_succ, i64_w, i32_w]
                            rfl
                          refine pure_ (i := 3) (N := some 39) (v := ?_) (a' := ?_) #[true, true, true, true, false, false, false, false, false, false, false, false, false, false, false, false, false, false] rfl rfl (any_of HT_.out (by kernel_rfl)) (fun _ _ _ h => h) (Or.inl ⟨by rfl, ?_⟩) ?_ ?_
                          rotate_left
                          · intro w'
                            go_simp
                            with_reducible rfl
                          rotate_left
                          · simp only [Act.put, List.setIfInBounds_toArray, List.set_cons_zero, List.set_cons_succ, i64_w, i32_w]
                            rfl
                          refine pure_ (i := 5) (N := some 41) (v := ?_) (a' := ?_) #[true, true, true, true, false, true, false, false, false, false, false, false, false, false, false, false, false, false] rfl rfl (any_of HT_.out (by kernel_rfl)) (fun _ _ _ h => h) (Or.inl ⟨by rfl, ?_⟩) ?_ ?_
                          rotate_left
                          · intro w'
                            go_simp
                            with_reducible rfl
                          rotate_left
                          · simp only [Act.put, List.setIfInBounds_toArray, List.set_cons_zero, List.set_cons_succ, i64_w, i32_w]
                            rfl
                          refine pure_ (i := 6) (N := some 42) (v := ?_) (a' := ?_) #[true, true, true, true, false, true, true, false, false, false, false, false, false, false, false, false, false, false] rfl rfl (any_of HT_.out (by kernel_rfl)) (fun _ _ _ h => h) (Or.inl ⟨by rfl, ?_⟩) ?_ ?_
                          rotate_left
                          · intro w'
                            go_simp
                            with_reducible rfl
                          rotate_left
                          · simp only [Act.put, List.setIfInBounds_toArray, List.set_cons_zero, List.set_cons_succ, i64_w, i32_w]
                            rfl
                          refine pure_ (i := 7) (N := some 43) (v := ?_) (a' := ?_) #[true, true, true, true, false, true, true, true, false, false, false, false, false, false, false, false, false, false] rfl rfl (any_of HT_.out (by kernel_rfl)) (fun _ _ _ h => h) (Or.inl ⟨by rfl, ?_⟩) ?_ ?_
                          rotate_left
                          · intro w'
                            go_simp
                            with_reducible rfl
                          rotate_left
                          · simp only [Act.put, List.setIfInBounds_toArray, List.set_cons_zero, List.set_cons_succ, i64_w, i32_w]
                            rfl
                          refine pure_ (i := 10) (N := some 46) (v := ?_) (a' := ?_) #[true, true, true, true, false, true, true, true, false, false, true, false, false, false, false, false, false, false] rfl rfl (any_of HT_.out (by kernel_rfl)) (fun _ _ _ h => h) (Or.inl ⟨by rfl, ?_⟩) ?_ ?_
                          rotate_left
                          · intro w'
                            go_simp
                            with_reducible rfl
                          rotate_left
                          · simp only [Act.put, List.setIfInBounds_toArray, List.set_cons_zero, List.set_cons_succ, i64_w, i32_w]
                            rfl
                          refine pure_ (i := 11) (N := some 47) (v := ?_) (a' := ?_) #[true, true, true, true, false, true, true, true, false, false, true, true, false, false, false, false, false, false] rfl rfl (any_of HT_.out (by kernel_rfl)) (fun _ _ _ h => h) (Or.inl ⟨by rfl, ?_⟩) ?_ ?_
                          rotate_left
                          · intro w'
                            go_simp
                            with_reducible rfl
                          rotate_left
                          · simp only [Act.put, List.setIfInBounds_toArray, List.set_cons_zero, List.set_cons_succ, i64_w, i32_w]
                            rfl
                          refine pure_ (i := 12) (N := some 48) (v := ?_) (a' := ?_) #[true, true, true, true, false, true, true, true, false, false, true, true, true, false, false, false, false, false] rfl rfl (any_of HT_.out (by kernel_rfl)) (fun _ _ _ h => h) (Or.inl ⟨by rfl, ?_⟩) ?_ ?_
                          rotate_left
                          · intro w'
                            go_simp
                            with_reducible rfl
                          rotate_left
                          · simp only [Act.put, List.setIfInBounds_toArray, List.set_cons_zero, List.set_cons_succ, i64_w, i32_w]
                            rfl
                          refine take_ (i := 4) (N := some 40) (v := ?_) (a' := ?_) #[true, true, true, true, true, true, true, true, false, false, true, true, true, false, false, false, false, false] rfl rfl (take_ofW HT_.out HW_.out (by kernel_rfl)) (fun _ _ _ h => h) (Or.inl ⟨by rfl, ?_⟩) hHeld ?_ ?_
                          rotate_left
                          · rintro w' ⟨s0, s1, s2⟩
                            go_simp
                            with_reducible rfl
                          rotate_left
                          · simp only [Act.put, List.setIfInBounds_toArray, List.set_cons_zero, List.set_cons_succ, i64_w, i32_w]
                            rfl
                          refine take_ (i := 8) (N := some 44) (v := ?_) (a' := ?_) #[true, true, true, true, true, true, true, true, true, false, true, true, true, false, false, false, false, false] rfl rfl (take_ofW HT_.out HW_.out (by kernel_rfl)) (fun _ _ _ h => h) (Or.inl ⟨by rfl, ?_⟩) hHeld ?_ ?_
                          rotate_left
                          · rintro w' ⟨s0, s1, s2⟩
                            go_simp
                            with_reducible rfl
                          rotate_left
                          · simp only [Act.put, List.setIfInBounds_toArray, List.set_cons_zero, List.set_cons_succ, i64_w, i32_w]
                            rfl
                          refine pure_ (i := 9) (N := some 45) (v := ?_) (a' := ?_) #[true, true, true, true, true, true, true, true, true, true, true, true, true, false, false, false, false, false] rfl rfl (any_of HT_.out (by kernel_rfl)) (fun _ _ _ h => h) (Or.inl ⟨by rfl, ?_⟩) ?_ ?_
                          rotate_left
                          · intro w'
                            go_simp
                            with_reducible rfl
                          rotate_left
                          · simp only [Act.put, List.setIfInBounds_toArray, List.set_cons_zero, List.set_cons_succ, i64_w, i32_w]
                            rfl
                          refine take_ (i := 13) (N := some 49) (v := ?_) (a' := ?_) #[true, true, true, true, true, true, true, true, true, true, true, true, true, true, false, false, false, false] rfl rfl (take_ofW HT_.out HW_.out (by kernel_rfl)) (fun _ _ _ h => h) (Or.inl ⟨by rfl, ?_⟩) hHeld ?_ ?_
                          rotate_left
                          · rintro w' ⟨s0, s1, s2⟩
                            go_simp
                            with_reducible rfl
                          rotate_left
                          · simp only [Act.put, List.setIfInBounds_toArray, List.set_cons_zero, List.set_cons_succ, i64_w, i32_w]
                            rfl
                          refine pure_ (i := 14) (N := some 50) (v := ?_) (a' := ?_) #[true, true, true, true, true, true, true, true, true, true, true, true, true, true, true, false, false, false] rfl rfl (any_of HT_.out (by kernel_rfl)) (fun _ _ _ h => h) (Or.inl ⟨by rfl, ?_⟩) ?_ ?_
                          rotate_left
                          · intro w'
                            go_simp
                            with_reducible rfl
                          rotate_left
                          · simp only [Act.put, List.setIfInBounds_toArray, List.set_cons_zero, List.set_cons_succ, i64_w, i32_w]
                            rfl
                          refine one_ (i := 15) (N := some 51) #[true, true, true, true, true, true, true, true, true, true, true, true, true, true, true, true, false, false] rfl rfl (one_of HT_.out (by kernel_rfl)) (by decide) (fun K hK => ?_)
                          refine value_ (w1 := ?_) (v := ?_) (by rfl) rfl ?_ ?_
                          rotate_left 2
                          · go_simp
                            constructor
                            · rfl
                            · rfl
                          refine hK.out _ _ ⟨(World.cell?_alloc_lt _ _ _ (World.block_lt_of_cell? _ _ (((HB.out.cell (World.block_lt_of_cell? w _ hw211_0)).trans hw211_0)))).trans (((HB.out.cell (World.block_lt_of_cell? w _ hw211_0)).trans hw211_0)), (World.cell?_alloc_lt _ _ _ (World.block_lt_of_cell? _ _ (((HB.out.cell (World.block_lt_of_cell? w _ hw212_0)).trans hw212_0)))).trans (((HB.out.cell (World.block_lt_of_cell? w _ hw212_0)).trans hw212_0)), (World.cell?_alloc_lt _ _ _ (World.block_lt_of_cell? _ _ (((HB.out.cell (World.block_lt_of_cell? w _ hw213_0)).trans hw213_0)))).trans (((HB.out.cell (World.block_lt_of_cell? w _ hw213_0)).trans hw213_0))⟩ (fun hHeld => ?_)
                          clear hK K
                          refine norm_ (a' := ?_) ?_ ?_
                          rotate_left
                          · show Act.put _ (some 51) _ = _
                            simp only [Act.put, List.setIfInBounds_toArray, List.set_cons_zero, List.set_cons_succ, i64_w, i32_w]
                            rfl
                          refine one_ (i := 16) (N := some 52) #[true, true, true, true, true, true, true, true, true, true, true, true, true, true, true, true, true, false] rfl rfl (one_of HT_.out (by kernel_rfl)) (by decide) (fun K hK => ?_)
                          refine Kd.R_append_step (Kd.int .u8) (w0 := w) w.heap.size (by rfl) (.tmp 36) (.tmp 51) 23 5 (.int .u8 0) 1 rfl Try.underlying23 info5 rfl (by decide) (by omega) u12 x12_1 (Go.bits .xor .u8 (Go.bits .xor .u8 (rd (l0.take ((ji7) : Int).toNat) x13_1) (rd (l1.take ((ji7) : Int).toNat) x13_1)) (rd (l2.take ((ji7) : Int).toNat) x13_1)) [.int .u8 (Go.bits .xor .u8 (Go.bits .xor .u8 (rd (l0.take ((ji7) : Int).toNat) x13_1) (rd (l1.take ((ji7) : Int).toNat) x13_1)) (rd (l2.take ((ji7) : Int).toNat) x13_1))] (fun _ => True) (fun _ => False) rfl rfl ?aP (fun _ hk => hk.elim) ?aF ?aO ?aB ?aS ?aL ?_
                          (case aP => exact rfl)
                          (case aB => exact (by repeat (first | (with_reducible first | exact HB.out | apply below_alloc | apply pw_below_drewN | apply below_drew1) | exact HB.out)))
                          (case aF => exact (fun _ _ => trivial))
                          (case aO => exact (by (with_reducible repeat (first | apply Kd.R_alloc | apply Kd.R_drewN | apply Kd.R_drew)); exact HO_12.out))
                          (case aS => exact (below_size (by repeat (first | (with_reducible first | exact HB.out | apply below_alloc | apply pw_below_drewN | apply below_drew1) | exact HB.out))))
                          (case aL => have := LMc23.out; omega)
                          intro v215 w25 ho hb hg hat
                          rw [← Ny214.out] at ho
                          have n0_ := Aside0.mk (hb)
                          have n1_ := Aside0.mk (ho)
                          clear HB
                          clear HO_12
                          have HB := n0_
                          have HO216 := n1_
                          clear n0_ n1_
                          clear ho hb hg hat
                          refine hK.out _ _ ⟨((HB.out.cell (World.block_lt_of_cell? w _ hw211_0)).trans hw211_0), ((HB.out.cell (World.block_lt_of_cell? w _ hw212_0)).trans hw212_0), ((HB.out.cell (World.block_lt_of_cell? w _ hw213_0)).trans hw213_0)⟩ (fun hHeld => ?_)
                          clear hK K
                          refine norm_ (a' := ?_) ?_ ?_
                          rotate_left
                          · show Act.put _ (some 52) _ = _
                            simp only [Act.put, List.setIfInBounds_toArray, List.set_cons_zero, List.set_cons_succ, i64_w, i32_w]
                            rfl
                          refine pure_ (i := 17) (N := some 12) (v := ?_) (a' := ?_) #[true, true, true, true, true, true, true, true, true, true, true, true, true, true, true, true, true, true] rfl rfl (any_of HT_.out (by kernel_rfl)) (fun _ _ _ h => h) (Or.inl ⟨by rfl, ?_⟩) ?_ ?_
                          rotate_left
                          · intro w'
                            go_simp
                            with_reducible rfl
                          rotate_left
                          · simp only [Act.put, List.setIfInBounds_toArray, List.set_cons_zero, List.set_cons_succ, i64_w, i32_w]
                            rfl
                          refine done_ (done_of HT_.out (by kernel_rfl)) ?_
                          try go_wp2
                          go_roundg k1
                          case measure => have := HK1.out; omega
                          case rel => exact ⟨(y214), (wrap64 (x13_1 + 1)), (by first | rfl | (simp; done) | (simp [*]; done)), H', ⟨by have := HK1.out; omega⟩, ⟨by (with_reducible repeat (first | apply Kd.R_alloc | apply Kd.R_drewN | apply Kd.R_drew)); exact HO216.out⟩, ⟨by repeat (first | (with_reducible first | exact HB.out | apply below_alloc | apply pw_below_drewN | apply below_drew1) | exact HB.out)⟩⟩
                        · rw [if_neg c23] at H
                          exact absurd H (by simp)
                      · rw [if_neg c22] at H
                        exact absurd H (by simp)
                    · rw [if_neg c21] at H
                      exact absurd H (by simp)
                  · rw [if_neg c20] at H
                    exact absurd H (by simp)
                · rw [if_neg c19] at H
                  exact absurd H (by simp)
              · rw [if_neg c18] at H
                have c18b0 : decide (x13_1 < ji7) = false := decide_eq_false c18
                clear c18
                by_cases c26 : t207 = true
                · subst c26
                  have H1 : ((crc_Byte.f x12_1).bind fun t217 => ((crc_Byte.f (l0.take ((ji7) : Int).toNat)).bind fun t218 => ((crc_Byte.f (l1.take ((ji7) : Int).toNat)).bind fun t219 => ((crc_Byte.f (l2.take ((ji7) : Int).toNat)).bind fun t220 => (if t217 = (Go.bits .xor .i64 (Go.bits .xor .i64 t218 t219) t220) then ((crc_Word.f x12_1).bind fun t221 => ((crc_Word.f (l0.take ((ji7) : Int).toNat)).bind fun t222 => ((crc_Word.f (l1.take ((ji7) : Int).toNat)).bind fun t223 => ((crc_Word.f (l2.take ((ji7) : Int).toNat)).bind fun t224 => (if t221 = (Go.bits .xor .i64 (Go.bits .xor .i64 t222 t223) t224) then ((phaetonref01_Spread.f k1 x12_1).bind fun t225 => ((crc_Bits.f t225).bind fun t228 => ((phaetonref01_Spread.f k1 (l0.take ((ji7) : Int).toNat)).bind fun t229 => ((crc_Bits.f t229).bind fun t232 => ((phaetonref01_Spread.f k1 (l1.take ((ji7) : Int).toNat)).bind fun t233 => ((crc_Bits.f t233).bind fun t236 => ((phaetonref01_Spread.f k1 (l2.take ((ji7) : Int).toNat)).bind fun t237 => ((crc_Bits.f t237).bind fun t240 => (if t228 = (Go.bits .xor .i64 (Go.bits .xor .i64 t232 t236) t240) then (some true) else (none)))))))))) else (none)))))) else (none)))))) = some r := by rw [if_pos rfl] at H; exact H
                  clear H
                  have H := H1
                  clear H1
                  replace H := Option.bind_eq_some_iff.mp H
                  obtain ⟨t217, A270, H⟩ := H
                  replace H : ((crc_Byte.f (l0.take ((ji7) : Int).toNat)).bind fun t218 => ((crc_Byte.f (l1.take ((ji7) : Int).toNat)).bind fun t219 => ((crc_Byte.f (l2.take ((ji7) : Int).toNat)).bind fun t220 => (if t217 = (Go.bits .xor .i64 (Go.bits .xor .i64 t218 t219) t220) then ((crc_Word.f x12_1).bind fun t221 => ((crc_Word.f (l0.take ((ji7) : Int).toNat)).bind fun t222 => ((crc_Word.f (l1.take ((ji7) : Int).toNat)).bind fun t223 => ((crc_Word.f (l2.take ((ji7) : Int).toNat)).bind fun t224 => (if t221 = (Go.bits .xor .i64 (Go.bits .xor .i64 t222 t223) t224) then ((phaetonref01_Spread.f k1 x12_1).bind fun t225 => ((crc_Bits.f t225).bind fun t228 => ((phaetonref01_Spread.f k1 (l0.take ((ji7) : Int).toNat)).bind fun t229 => ((crc_Bits.f t229).bind fun t232 => ((phaetonref01_Spread.f k1 (l1.take ((ji7) : Int).toNat)).bind fun t233 => ((crc_Bits.f t233).bind fun t236 => ((phaetonref01_Spread.f k1 (l2.take ((ji7) : Int).toNat)).bind fun t237 => ((crc_Bits.f t237).bind fun t240 => (if t228 = (Go.bits .xor .i64 (Go.bits .xor .i64 t232 t236) t240) then (some true) else (none)))))))))) else (none)))))) else (none))))) = some r := H
                  have A27 := Aside0.mk A270
                  clear A270
                  replace H := Option.bind_eq_some_iff.mp H
                  obtain ⟨t218, A280, H⟩ := H
                  replace H : ((crc_Byte.f (l1.take ((ji7) : Int).toNat)).bind fun t219 => ((crc_Byte.f (l2.take ((ji7) : Int).toNat)).bind fun t220 => (if t217 = (Go.bits .xor .i64 (Go.bits .xor .i64 t218 t219) t220) then ((crc_Word.f x12_1).bind fun t221 => ((crc_Word.f (l0.take ((ji7) : Int).toNat)).bind fun t222 => ((crc_Word.f (l1.take ((ji7) : Int).toNat)).bind fun t223 => ((crc_Word.f (l2.take ((ji7) : Int).toNat)).bind fun t224 => (if t221 = (Go.bits .xor .i64 (Go.bits .xor .i64 t222 t223) t224) then ((phaetonref01_Spread.f k1 x12_1).bind fun t225 => ((crc_Bits.f t225).bind fun t228 => ((phaetonref01_Spread.f k1 (l0.take ((ji7) : Int).toNat)).bind fun t229 => ((crc_Bits.f t229).bind fun t232 => ((phaetonref01_Spread.f k1 (l1.take ((ji7) : Int).toNat)).bind fun t233 => ((crc_Bits.f t233).bind fun t236 => ((phaetonref01_Spread.f k1 (l2.take ((ji7) : Int).toNat)).bind fun t237 => ((crc_Bits.f t237).bind fun t240 => (if t228 = (Go.bits .xor .i64 (Go.bits .xor .i64 t232 t236) t240) then (some true) else (none)))))))))) else (none)))))) else (none)))) = some r := H
                  have A28 := Aside0.mk A280
                  clear A280
                  replace H := Option.bind_eq_some_iff.mp H
                  obtain ⟨t219, A290, H⟩ := H
                  replace H : ((crc_Byte.f (l2.take ((ji7) : Int).toNat)).bind fun t220 => (if t217 = (Go.bits .xor .i64 (Go.bits .xor .i64 t218 t219) t220) then ((crc_Word.f x12_1).bind fun t221 => ((crc_Word.f (l0.take ((ji7) : Int).toNat)).bind fun t222 => ((crc_Word.f (l1.take ((ji7) : Int).toNat)).bind fun t223 => ((crc_Word.f (l2.take ((ji7) : Int).toNat)).bind fun t224 => (if t221 = (Go.bits .xor .i64 (Go.bits .xor .i64 t222 t223) t224) then ((phaetonref01_Spread.f k1 x12_1).bind fun t225 => ((crc_Bits.f t225).bind fun t228 => ((phaetonref01_Spread.f k1 (l0.take ((ji7) : Int).toNat)).bind fun t229 => ((crc_Bits.f t229).bind fun t232 => ((phaetonref01_Spread.f k1 (l1.take ((ji7) : Int).toNat)).bind fun t233 => ((crc_Bits.f t233).bind fun t236 => ((phaetonref01_Spread.f k1 (l2.take ((ji7) : Int).toNat)).bind fun t237 => ((crc_Bits.f t237).bind fun t240 => (if t228 = (Go.bits .xor .i64 (Go.bits .xor .i64 t232 t236) t240) then (some true) else (none)))))))))) else (none)))))) else (none))) = some r := H
                  have A29 := Aside0.mk A290
                  clear A290
                  replace H := Option.bind_eq_some_iff.mp H
                  obtain ⟨t220, A300, H⟩ := H
                  replace H : (if t217 = (Go.bits .xor .i64 (Go.bits .xor .i64 t218 t219) t220) then ((crc_Word.f x12_1).bind fun t221 => ((crc_Word.f (l0.take ((ji7) : Int).toNat)).bind fun t222 => ((crc_Word.f (l1.take ((ji7) : Int).toNat)).bind fun t223 => ((crc_Word.f (l2.take ((ji7) : Int).toNat)).bind fun t224 => (if t221 = (Go.bits .xor .i64 (Go.bits .xor .i64 t222 t223) t224) then ((phaetonref01_Spread.f k1 x12_1).bind fun t225 => ((crc_Bits.f t225).bind fun t228 => ((phaetonref01_Spread.f k1 (l0.take ((ji7) : Int).toNat)).bind fun t229 => ((crc_Bits.f t229).bind fun t232 => ((phaetonref01_Spread.f k1 (l1.take ((ji7) : Int).toNat)).bind fun t233 => ((crc_Bits.f t233).bind fun t236 => ((phaetonref01_Spread.f k1 (l2.take ((ji7) : Int).toNat)).bind fun t237 => ((crc_Bits.f t237).bind fun t240 => (if t228 = (Go.bits .xor .i64 (Go.bits .xor .i64 t232 t236) t240) then (some true) else (none)))))))))) else (none)))))) else (none)) = some r := H
                  have A30 := Aside0.mk A300
                  clear A300
                  by_cases c31 : t217 = (Go.bits .xor .i64 (Go.bits .xor .i64 t218 t219) t220)
                  · rw [if_pos c31] at H
                    have c31b0 : (t217 == (Go.bits .xor .i64 (Go.bits .xor .i64 t218 t219) t220)) = true := beq_iff_eq.mpr c31
                    have c31b1 : (t217 != (Go.bits .xor .i64 (Go.bits .xor .i64 t218 t219) t220)) = false := bne_eq_false_iff_eq.mpr c31
                    clear c31
                    replace H := Option.bind_eq_some_iff.mp H
                    obtain ⟨t221, A320, H⟩ := H
                    replace H : ((crc_Word.f (l0.take ((ji7) : Int).toNat)).bind fun t222 => ((crc_Word.f (l1.take ((ji7) : Int).toNat)).bind fun t223 => ((crc_Word.f (l2.take ((ji7) : Int).toNat)).bind fun t224 => (if t221 = (Go.bits .xor .i64 (Go.bits .xor .i64 t222 t223) t224) then ((phaetonref01_Spread.f k1 x12_1).bind fun t225 => ((crc_Bits.f t225).bind fun t228 => ((phaetonref01_Spread.f k1 (l0.take ((ji7) : Int).toNat)).bind fun t229 => ((crc_Bits.f t229).bind fun t232 => ((phaetonref01_Spread.f k1 (l1.take ((ji7) : Int).toNat)).bind fun t233 => ((crc_Bits.f t233).bind fun t236 => ((phaetonref01_Spread.f k1 (l2.take ((ji7) : Int).toNat)).bind fun t237 => ((crc_Bits.f t237).bind fun t240 => (if t228 = (Go.bits .xor .i64 (Go.bits .xor .i64 t232 t236) t240) then (some true) else (none)))))))))) else (none))))) = some r := H
                    have A32 := Aside0.mk A320
                    clear A320
                    replace H := Option.bind_eq_some_iff.mp H
                    obtain ⟨t222, A330, H⟩ := H
                    replace H : ((crc_Word.f (l1.take ((ji7) : Int).toNat)).bind fun t223 => ((crc_Word.f (l2.take ((ji7) : Int).toNat)).bind fun t224 => (if t221 = (Go.bits .xor .i64 (Go.bits .xor .i64 t222 t223) t224) then ((phaetonref01_Spread.f k1 x12_1).bind fun t225 => ((crc_Bits.f t225).bind fun t228 => ((phaetonref01_Spread.f k1 (l0.take ((ji7) : Int).toNat)).bind fun t229 => ((crc_Bits.f t229).bind fun t232 => ((phaetonref01_Spread.f k1 (l1.take ((ji7) : Int).toNat)).bind fun t233 => ((crc_Bits.f t233).bind fun t236 => ((phaetonref01_Spread.f k1 (l2.take ((ji7) : Int).toNat)).bind fun t237 => ((crc_Bits.f t237).bind fun t240 => (if t228 = (Go.bits .xor .i64 (Go.bits .xor .i64 t232 t236) t240) then (some true) else (none)))))))))) else (none)))) = some r := H
                    have A33 := Aside0.mk A330
                    clear A330
                    replace H := Option.bind_eq_some_iff.mp H
                    obtain ⟨t223, A340, H⟩ := H
                    replace H : ((crc_Word.f (l2.take ((ji7) : Int).toNat)).bind fun t224 => (if t221 = (Go.bits .xor .i64 (Go.bits .xor .i64 t222 t223) t224) then ((phaetonref01_Spread.f k1 x12_1).bind fun t225 => ((crc_Bits.f t225).bind fun t228 => ((phaetonref01_Spread.f k1 (l0.take ((ji7) : Int).toNat)).bind fun t229 => ((crc_Bits.f t229).bind fun t232 => ((phaetonref01_Spread.f k1 (l1.take ((ji7) : Int).toNat)).bind fun t233 => ((crc_Bits.f t233).bind fun t236 => ((phaetonref01_Spread.f k1 (l2.take ((ji7) : Int).toNat)).bind fun t237 => ((crc_Bits.f t237).bind fun t240 => (if t228 = (Go.bits .xor .i64 (Go.bits .xor .i64 t232 t236) t240) then (some true) else (none)))))))))) else (none))) = some r := H
                    have A34 := Aside0.mk A340
                    clear A340
                    replace H := Option.bind_eq_some_iff.mp H
                    obtain ⟨t224, A350, H⟩ := H
                    replace H : (if t221 = (Go.bits .xor .i64 (Go.bits .xor .i64 t222 t223) t224) then ((phaetonref01_Spread.f k1 x12_1).bind fun t225 => ((crc_Bits.f t225).bind fun t228 => ((phaetonref01_Spread.f k1 (l0.take ((ji7) : Int).toNat)).bind fun t229 => ((crc_Bits.f t229).bind fun t232 => ((phaetonref01_Spread.f k1 (l1.take ((ji7) : Int).toNat)).bind fun t233 => ((crc_Bits.f t233).bind fun t236 => ((phaetonref01_Spread.f k1 (l2.take ((ji7) : Int).toNat)).bind fun t237 => ((crc_Bits.f t237).bind fun t240 => (if t228 = (Go.bits .xor .i64 (Go.bits .xor .i64 t232 t236) t240) then (some true) else (none)))))))))) else (none)) = some r := H
                    have A35 := Aside0.mk A350
                    clear A350
                    by_cases c36 : t221 = (Go.bits .xor .i64 (Go.bits .xor .i64 t222 t223) t224)
                    · rw [if_pos c36] at H
                      have c36b0 : (t221 == (Go.bits .xor .i64 (Go.bits .xor .i64 t222 t223) t224)) = true := beq_iff_eq.mpr c36
                      have c36b1 : (t221 != (Go.bits .xor .i64 (Go.bits .xor .i64 t222 t223) t224)) = false := bne_eq_false_iff_eq.mpr c36
                      clear c36
                      replace H := Option.bind_eq_some_iff.mp H
                      obtain ⟨t225, A370, H⟩ := H
                      replace H : ((crc_Bits.f t225).bind fun t228 => ((phaetonref01_Spread.f k1 (l0.take ((ji7) : Int).toNat)).bind fun t229 => ((crc_Bits.f t229).bind fun t232 => ((phaetonref01_Spread.f k1 (l1.take ((ji7) : Int).toNat)).bind fun t233 => ((crc_Bits.f t233).bind fun t236 => ((phaetonref01_Spread.f k1 (l2.take ((ji7) : Int).toNat)).bind fun t237 => ((crc_Bits.f t237).bind fun t240 => (if t228 = (Go.bits .xor .i64 (Go.bits .xor .i64 t232 t236) t240) then (some true) else (none))))))))) = some r := H
                      have A37 := Aside0.mk A370
                      clear A370
                      replace H := Option.bind_eq_some_iff.mp H
                      obtain ⟨t228, A380, H⟩ := H
                      replace H : ((phaetonref01_Spread.f k1 (l0.take ((ji7) : Int).toNat)).bind fun t229 => ((crc_Bits.f t229).bind fun t232 => ((phaetonref01_Spread.f k1 (l1.take ((ji7) : Int).toNat)).bind fun t233 => ((crc_Bits.f t233).bind fun t236 => ((phaetonref01_Spread.f k1 (l2.take ((ji7) : Int).toNat)).bind fun t237 => ((crc_Bits.f t237).bind fun t240 => (if t228 = (Go.bits .xor .i64 (Go.bits .xor .i64 t232 t236) t240) then (some true) else (none)))))))) = some r := H
                      have A38 := Aside0.mk A380
                      clear A380
                      replace H := Option.bind_eq_some_iff.mp H
                      obtain ⟨t229, A390, H⟩ := H
                      replace H : ((crc_Bits.f t229).bind fun t232 => ((phaetonref01_Spread.f k1 (l1.take ((ji7) : Int).toNat)).bind fun t233 => ((crc_Bits.f t233).bind fun t236 => ((phaetonref01_Spread.f k1 (l2.take ((ji7) : Int).toNat)).bind fun t237 => ((crc_Bits.f t237).bind fun t240 => (if t228 = (Go.bits .xor .i64 (Go.bits .xor .i64 t232 t236) t240) then (some true) else (none))))))) = some r := H
                      have A39 := Aside0.mk A390
                      clear A390
                      replace H := Option.bind_eq_some_iff.mp H
                      obtain ⟨t232, A400, H⟩ := H
                      replace H : ((phaetonref01_Spread.f k1 (l1.take ((ji7) : Int).toNat)).bind fun t233 => ((crc_Bits.f t233).bind fun t236 => ((phaetonref01_Spread.f k1 (l2.take ((ji7) : Int).toNat)).bind fun t237 => ((crc_Bits.f t237).bind fun t240 => (if t228 = (Go.bits .xor .i64 (Go.bits .xor .i64 t232 t236) t240) then (some true) else (none)))))) = some r := H
                      have A40 := Aside0.mk A400
                      clear A400
                      replace H := Option.bind_eq_some_iff.mp H
                      obtain ⟨t233, A410, H⟩ := H
                      replace H : ((crc_Bits.f t233).bind fun t236 => ((phaetonref01_Spread.f k1 (l2.take ((ji7) : Int).toNat)).bind fun t237 => ((crc_Bits.f t237).bind fun t240 => (if t228 = (Go.bits .xor .i64 (Go.bits .xor .i64 t232 t236) t240) then (some true) else (none))))) = some r := H
                      have A41 := Aside0.mk A410
                      clear A410
                      replace H := Option.bind_eq_some_iff.mp H
                      obtain ⟨t236, A420, H⟩ := H
                      replace H : ((phaetonref01_Spread.f k1 (l2.take ((ji7) : Int).toNat)).bind fun t237 => ((crc_Bits.f t237).bind fun t240 => (if t228 = (Go.bits .xor .i64 (Go.bits .xor .i64 t232 t236) t240) then (some true) else (none)))) = some r := H
                      have A42 := Aside0.mk A420
                      clear A420
                      replace H := Option.bind_eq_some_iff.mp H
                      obtain ⟨t237, A430, H⟩ := H
                      replace H : ((crc_Bits.f t237).bind fun t240 => (if t228 = (Go.bits .xor .i64 (Go.bits .xor .i64 t232 t236) t240) then (some true) else (none))) = some r := H
                      have A43 := Aside0.mk A430
                      clear A430
                      replace H := Option.bind_eq_some_iff.mp H
                      obtain ⟨t240, A440, H⟩ := H
                      replace H : (if t228 = (Go.bits .xor .i64 (Go.bits .xor .i64 t232 t236) t240) then (some true) else (none)) = some r := H
                      have A44 := Aside0.mk A440
                      clear A440
                      by_cases c45 : t228 = (Go.bits .xor .i64 (Go.bits .xor .i64 t232 t236) t240)
                      · rw [if_pos c45] at H
                        have c45b0 : (t228 == (Go.bits .xor .i64 (Go.bits .xor .i64 t232 t236) t240)) = true := beq_iff_eq.mpr c45
                        have c45b1 : (t228 != (Go.bits .xor .i64 (Go.bits .xor .i64 t232 t236) t240)) = false := bne_eq_false_iff_eq.mpr c45
                        clear c45
                        obtain rfl := Option.some.inj H
                        obtain ⟨Ao46, co46, eo46⟩ := Kd.R_slice HO_12.out
                        subst eo46
                        go_wp2_with (first | (go_at_call 14; (with_reducible refine (crc_Byte.calls _ _ x12_1 t217 _ ?side1 ?side2 A27.out).mono ?_); (case side1 => repeat (first | exact (Kd.R_reads' HO_12.out).2.2 | (with_reducible refine Kd.C_alloc ?_ _) | (with_reducible refine Kd.C_drewN ?_ _) | (with_reducible refine Kd.C_drew ?_))); (case side2 => exact (Kd.R_reads' HO_12.out).2.1); rintro e w47 ⟨rfl, hb⟩; have n0_ := Aside0.mk (Kd.R_below (by (with_reducible repeat (first | apply Kd.R_alloc | apply Kd.R_drewN | apply Kd.R_drew)); exact HO_12.out) hb); have n1_ := Aside0.mk (below_step (by repeat (first | (with_reducible first | exact HB.out | apply below_alloc | apply pw_below_drewN | apply below_drew1) | exact HB.out)) hb); clear HO_12; clear HB; have HO_12 := n0_; have HB := n1_; clear n0_ n1_; (try clear hb); (try clear hb2); (try clear hk); (try clear hi)) | (go_at_call 14; (with_reducible refine (HW.len_as LT_l0_ji7.out (crc_Byte.calls _ _ (l0.take ((ji7) : Int).toNat) t218 _ ?side1 ?side2 A28.out)).mono ?_); (case side1 => repeat (first | exact (Kd.C_below HR208.out HB.out) | (with_reducible refine Kd.C_alloc ?_ _) | (with_reducible refine Kd.C_drewN ?_ _) | (with_reducible refine Kd.C_drew ?_))); (case side2 => exact HC208.out); rintro e w48 ⟨rfl, hb⟩; have n0_ := Aside0.mk (Kd.R_below (by (with_reducible repeat (first | apply Kd.R_alloc | apply Kd.R_drewN | apply Kd.R_drew)); exact HO_12.out) hb); have n1_ := Aside0.mk (below_step (by repeat (first | (with_reducible first | exact HB.out | apply below_alloc | apply pw_below_drewN | apply below_drew1) | exact HB.out)) hb); clear HO_12; clear HB; have HO_12 := n0_; have HB := n1_; clear n0_ n1_; (try clear hb); (try clear hb2); (try clear hk); (try clear hi)) | (go_at_call 14; (with_reducible refine (HW.len_as LT_l1_ji7.out (crc_Byte.calls _ _ (l1.take ((ji7) : Int).toNat) t219 _ ?side1 ?side2 A29.out)).mono ?_); (case side1 => repeat (first | exact (Kd.C_below HR209.out HB.out) | (with_reducible refine Kd.C_alloc ?_ _) | (with_reducible refine Kd.C_drewN ?_ _) | (with_reducible refine Kd.C_drew ?_))); (case side2 => exact HC209.out); rintro e w49 ⟨rfl, hb⟩; have n0_ := Aside0.mk (Kd.R_below (by (with_reducible repeat (first | apply Kd.R_alloc | apply Kd.R_drewN | apply Kd.R_drew)); exact HO_12.out) hb); have n1_ := Aside0.mk (below_step (by repeat (first | (with_reducible first | exact HB.out | apply below_alloc | apply pw_below_drewN | apply below_drew1) | exact HB.out)) hb); clear HO_12; clear HB; have HO_12 := n0_; have HB := n1_; clear n0_ n1_; (try clear hb); (try clear hb2); (try clear hk); (try clear hi)) | (go_at_call 14; (with_reducible refine (HW.len_as LT_l2_ji7.out (crc_Byte.calls _ _ (l2.take ((ji7) : Int).toNat) t220 _ ?side1 ?side2 A30.out)).mono ?_); (case side1 => repeat (first | exact (Kd.C_below HR210.out HB.out) | (with_reducible refine Kd.C_alloc ?_ _) | (with_reducible refine Kd.C_drewN ?_ _) | (with_reducible refine Kd.C_drew ?_))); (case side2 => exact HC210.out); rintro e w50 ⟨rfl, hb⟩; have n0_ := Aside0.mk (Kd.R_below (by (with_reducible repeat (first | apply Kd.R_alloc | apply Kd.R_drewN | apply Kd.R_drew)); exact HO_12.out) hb); have n1_ := Aside0.mk (below_step (by repeat (first | (with_reducible first | exact HB.out | apply below_alloc | apply pw_below_drewN | apply below_drew1) | exact HB.out)) hb); clear HO_12; clear HB; have HO_12 := n0_; have HB := n1_; clear n0_ n1_; (try clear hb); (try clear hb2); (try clear hk); (try clear hi)) | (go_at_call 16; (with_reducible refine (crc_Word.calls _ _ x12_1 t221 _ ?side1 ?side2 A32.out).mono ?_); (case side1 => repeat (first | exact (Kd.R_reads' HO_12.out).2.2 | (with_reducible refine Kd.C_alloc ?_ _) | (with_reducible refine Kd.C_drewN ?_ _) | (with_reducible refine Kd.C_drew ?_))); (case side2 => exact (Kd.R_reads' HO_12.out).2.1); rintro e w51 ⟨rfl, hb⟩; have n0_ := Aside0.mk (Kd.R_below (by (with_reducible repeat (first | apply Kd.R_alloc | apply Kd.R_drewN | apply Kd.R_drew)); exact HO_12.out) hb); have n1_ := Aside0.mk (below_step (by repeat (first | (with_reducible first | exact HB.out | apply below_alloc | apply pw_below_drewN | apply below_drew1) | exact HB.out)) hb); clear HO_12; clear HB; have HO_12 := n0_; have HB := n1_; clear n0_ n1_; (try clear hb); (try clear hb2); (try clear hk); (try clear hi)) | (go_at_call 16; (with_reducible refine (HW.len_as LT_l0_ji7.out (crc_Word.calls _ _ (l0.take ((ji7) : Int).toNat) t222 _ ?side1 ?side2 A33.out)).mono ?_); (case side1 => repeat (first | exact (Kd.C_below HR208.out HB.out) | (with_reducible refine Kd.C_alloc ?_ _) | (with_reducible refine Kd.C_drewN ?_ _) | (with_reducible refine Kd.C_drew ?_))); (case side2 => exact HC208.out); rintro e w52 ⟨rfl, hb⟩; have n0_ := Aside0.mk (Kd.R_below (by (with_reducible repeat (first | apply Kd.R_alloc | apply Kd.R_drewN | apply Kd.R_drew)); exact HO_12.out) hb); have n1_ := Aside0.mk (below_step (by repeat (first | (with_reducible first | exact HB.out | apply below_alloc | apply pw_below_drewN | apply below_drew1) | exact HB.out)) hb); clear HO_12; clear HB; have HO_12 := n0_; have HB := n1_; clear n0_ n1_; (try clear hb); (try clear hb2); (try clear hk); (try clear hi)) | (go_at_call 16; (with_reducible refine (HW.len_as LT_l1_ji7.out (crc_Word.calls _ _ (l1.take ((ji7) : Int).toNat) t223 _ ?side1 ?side2 A34.out)).mono ?_); (case side1 => repeat (first | exact (Kd.C_below HR209.out HB.out) | (with_reducible refine Kd.C_alloc ?_ _) | (with_reducible refine Kd.C_drewN ?_ _) | (with_reducible refine Kd.C_drew ?_))); (case side2 => exact HC209.out); rintro e w53 ⟨rfl, hb⟩; have n0_ := Aside0.mk (Kd.R_below (by (with_reducible repeat (first | apply Kd.R_alloc | apply Kd.R_drewN | apply Kd.R_drew)); exact HO_12.out) hb); have n1_ := Aside0.mk (below_step (by repeat (first | (with_reducible first | exact HB.out | apply below_alloc | apply pw_below_drewN | apply below_drew1) | exact HB.out)) hb); clear HO_12; clear HB; have HO_12 := n0_; have HB := n1_; clear n0_ n1_; (try clear hb); (try clear hb2); (try clear hk); (try clear hi)) | (go_at_call 16; (with_reducible refine (HW.len_as LT_l2_ji7.out (crc_Word.calls _ _ (l2.take ((ji7) : Int).toNat) t224 _ ?side1 ?side2 A35.out)).mono ?_); (case side1 => repeat (first | exact (Kd.C_below HR210.out HB.out) | (with_reducible refine Kd.C_alloc ?_ _) | (with_reducible refine Kd.C_drewN ?_ _) | (with_reducible refine Kd.C_drew ?_))); (case side2 => exact HC210.out); rintro e w54 ⟨rfl, hb⟩; have n0_ := Aside0.mk (Kd.R_below (by (with_reducible repeat (first | apply Kd.R_alloc | apply Kd.R_drewN | apply Kd.R_drew)); exact HO_12.out) hb); have n1_ := Aside0.mk (below_step (by repeat (first | (with_reducible first | exact HB.out | apply below_alloc | apply pw_below_drewN | apply below_drew1) | exact HB.out)) hb); clear HO_12; clear HB; have HO_12 := n0_; have HB := n1_; clear n0_ n1_; (try clear hb); (try clear hb2); (try clear hk); (try clear hi)) | (go_at_call 20; (with_reducible refine (phaetonref01_Spread.calls k1 _ _ x12_1 t225 _ ?side1 ?side2 A37.out).mono ?_); (case side1 => repeat (first | exact (Kd.R_reads' HO_12.out).2.2 | (with_reducible refine Kd.C_alloc ?_ _) | (with_reducible refine Kd.C_drewN ?_ _) | (with_reducible refine Kd.C_drew ?_))); (case side2 => exact (Kd.R_reads' HO_12.out).2.1); rintro e w55 ⟨v226, rfl, ho0, hb⟩; have n0_ := Aside0.mk (Kd.R_below (by (with_reducible repeat (first | apply Kd.R_alloc | apply Kd.R_drewN | apply Kd.R_drew)); exact HO_12.out) hb); have n1_ := Aside0.mk (Kd.R_lower ho0 (below_size (by repeat (first | (with_reducible first | exact HB.out | apply below_alloc | apply pw_below_drewN | apply below_drew1) | exact HB.out)))); have n2_ := Aside0.mk (below_step (by repeat (first | (with_reducible first | exact HB.out | apply below_alloc | apply pw_below_drewN | apply below_drew1) | exact HB.out)) hb); clear HO_12; clear HB; have HO_12 := n0_; have HO227 := n1_; have HB := n2_; clear n0_ n1_ n2_; (try clear hb); (try clear hb2); (try clear hk); (try clear hi); (try clear ho0); obtain ⟨Ao56, co56, eo56⟩ := Kd.R_slice HO227.out; subst eo56) | (go_at_call 12; (with_reducible refine (crc_Bits.calls _ _ t225 t228 _ ?side1 ?side2 A38.out).mono ?_); (case side1 => repeat (first | exact (Kd.R_reads' HO227.out).2.2 | (with_reducible refine Kd.C_alloc ?_ _) | (with_reducible refine Kd.C_drewN ?_ _) | (with_reducible refine Kd.C_drew ?_))); (case side2 => exact (Kd.R_reads' HO227.out).2.1); rintro e w57 ⟨rfl, hb⟩; have n0_ := Aside0.mk (Kd.R_below (by (with_reducible repeat (first | apply Kd.R_alloc | apply Kd.R_drewN | apply Kd.R_drew)); exact HO_12.out) hb); have n1_ := Aside0.mk (Kd.R_below (by (with_reducible repeat (first | apply Kd.R_alloc | apply Kd.R_drewN | apply Kd.R_drew)); exact HO227.out) hb); have n2_ := Aside0.mk (below_step (by repeat (first | (with_reducible first | exact HB.out | apply below_alloc | apply pw_below_drewN | apply below_drew1) | exact HB.out)) hb); clear HO_12; clear HO227; clear HB; have HO_12 := n0_; have HO227 := n1_; have HB := n2_; clear n0_ n1_ n2_; (try clear hb); (try clear hb2); (try clear hk); (try clear hi)) | (go_at_call 20; (with_reducible refine (HW.len_as LT_l0_ji7.out (phaetonref01_Spread.calls k1 _ _ (l0.take ((ji7) : Int).toNat) t229 _ ?side1 ?side2 A39.out)).mono ?_); (case side1 => repeat (first | exact (Kd.C_below HR208.out HB.out) | (with_reducible refine Kd.C_alloc ?_ _) | (with_reducible refine Kd.C_drewN ?_ _) | (with_reducible refine Kd.C_drew ?_))); (case side2 => exact HC208.out); rintro e w58 ⟨v230, rfl, ho0, hb⟩; have n0_ := Aside0.mk (Kd.R_below (by (with_reducible repeat (first | apply Kd.R_alloc | apply Kd.R_drewN | apply Kd.R_drew)); exact HO_12.out) hb); have n1_ := Aside0.mk (Kd.R_elder' (by (with_reducible repeat (first | apply Kd.R_alloc | apply Kd.R_drewN | apply Kd.R_drew)); exact HO227.out) (Kd.R_base ho0) hb); have n2_ := Aside0.mk (Kd.R_lower (Kd.R_new' ho0 (Kd.R_lt (by (with_reducible repeat (first | apply Kd.R_alloc | apply Kd.R_drewN | apply Kd.R_drew)); exact HO227.out))) (below_size (by repeat (first | (with_reducible first | exact HB.out | apply below_alloc | apply pw_below_drewN | apply below_drew1) | exact HB.out)))); have n3_ := Aside0.mk (below_step (by repeat (first | (with_reducible first | exact HB.out | apply below_alloc | apply pw_below_drewN | apply below_drew1) | exact HB.out)) hb); clear HO_12; clear HO227; clear HB; have HO_12 := n0_; have HO227 := n1_; have HO231 := n2_; have HB := n3_; clear n0_ n1_ n2_ n3_; (try clear hb); (try clear hb2); (try clear hk); (try clear hi); (try clear ho0); obtain ⟨Ao59, co59, eo59⟩ := Kd.R_slice HO231.out; subst eo59) | (go_at_call 12; (with_reducible refine (crc_Bits.calls _ _ t229 t232 _ ?side1 ?side2 A40.out).mono ?_); (case side1 => repeat (first | exact (Kd.R_reads' HO231.out).2.2 | (with_reducible refine Kd.C_alloc ?_ _) | (with_reducible refine Kd.C_drewN ?_ _) | (with_reducible refine Kd.C_drew ?_))); (case side2 => exact (Kd.R_reads' HO231.out).2.1); rintro e w60 ⟨rfl, hb⟩; have n0_ := Aside0.mk (Kd.R_below (by (with_reducible repeat (first | apply Kd.R_alloc | apply Kd.R_drewN | apply Kd.R_drew)); exact HO_12.out) hb); have n1_ := Aside0.mk (Kd.R_below (by (with_reducible repeat (first | apply Kd.R_alloc | apply Kd.R_drewN | apply Kd.R_drew)); exact HO227.out) hb); have n2_ := Aside0.mk (Kd.R_below (by (with_reducible repeat (first | apply Kd.R_alloc | apply Kd.R_drewN | apply Kd.R_drew)); exact HO231.out) hb); have n3_ := Aside0.mk (below_step (by repeat (first | (with_reducible first | exact HB.out | apply below_alloc | apply pw_below_drewN | apply below_drew1) | exact HB.out)) hb); clear HO_12; clear HO227; clear HO231; clear HB; have HO_12 := n0_; have HO227 := n1_; have HO231 := n2_; have HB := n3_; clear n0_ n1_ n2_ n3_; (try clear hb); (try clear hb2); (try clear hk); (try clear hi)) | (go_at_call 20; (with_reducible refine (HW.len_as LT_l1_ji7.out (phaetonref01_Spread.calls k1 _ _ (l1.take ((ji7) : Int).toNat) t233 _ ?side1 ?side2 A41.out)).mono ?_); (case side1 => repeat (first | exact (Kd.C_below HR209.out HB.out) | (with_reducible refine Kd.C_alloc ?_ _) | (with_reducible refine Kd.C_drewN ?_ _) | (with_reducible refine Kd.C_drew ?_))); (case side2 => exact HC209.out); rintro e w61 ⟨v234, rfl, ho0, hb⟩; have n0_ := Aside0.mk (Kd.R_below (by (with_reducible repeat (first | apply Kd.R_alloc | apply Kd.R_drewN | apply Kd.R_drew)); exact HO_12.out) hb); have n1_ := Aside0.mk (Kd.R_elder' (by (with_reducible repeat (first | apply Kd.R_alloc | apply Kd.R_drewN | apply Kd.R_drew)); exact HO227.out) (Kd.R_base ho0) hb); have n2_ := Aside0.mk (Kd.R_elder' (by (with_reducible repeat (first | apply Kd.R_alloc | apply Kd.R_drewN | apply Kd.R_drew)); exact HO231.out) (Kd.R_base ho0) hb); have n3_ := Aside0.mk (Kd.R_lower (Kd.R_new' (Kd.R_new' ho0 (Kd.R_lt (by (with_reducible repeat (first | apply Kd.R_alloc | apply Kd.R_drewN | apply Kd.R_drew)); exact HO227.out))) (Kd.R_lt (by (with_reducible repeat (first | apply Kd.R_alloc | apply Kd.R_drewN | apply Kd.R_drew)); exact HO231.out))) (below_size (by repeat (first | (with_reducible first | exact HB.out | apply below_alloc | apply pw_below_drewN | apply below_drew1) | exact HB.out)))); have n4_ := Aside0.mk (below_step (by repeat (first | (with_reducible first | exact HB.out | apply below_alloc | apply pw_below_drewN | apply below_drew1) | exact HB.out)) hb); clear HO_12; clear HO227; clear HO231; clear HB; have HO_12 := n0_; have HO227 := n1_; have HO231 := n2_; have HO235 := n3_; have HB := n4_; clear n0_ n1_ n2_ n3_ n4_; (try clear hb); (try clear hb2); (try clear hk); (try clear hi); (try clear ho0); obtain ⟨Ao62, co62, eo62⟩ := Kd.R_slice HO235.out; subst eo62) | (go_at_call 12; (with_reducible refine (crc_Bits.calls _ _ t233 t236 _ ?side1 ?side2 A42.out).mono ?_); (case side1 => repeat (first | exact (Kd.R_reads' HO235.out).2.2 | (with_reducible refine Kd.C_alloc ?_ _) | (with_reducible refine Kd.C_drewN ?_ _) | (with_reducible refine Kd.C_drew ?_))); (case side2 => exact (Kd.R_reads' HO235.out).2.1); rintro e w63 ⟨rfl, hb⟩; have n0_ := Aside0.mk (Kd.R_below (by (with_reducible repeat (first | apply Kd.R_alloc | apply Kd.R_drewN | apply Kd.R_drew)); exact HO_12.out) hb); have n1_ := Aside0.mk (Kd.R_below (by (with_reducible repeat (first | apply Kd.R_alloc | apply Kd.R_drewN | apply Kd.R_drew)); exact HO227.out) hb); have n2_ := Aside0.mk (Kd.R_below (by (with_reducible repeat (first | apply Kd.R_alloc | apply Kd.R_drewN | apply Kd.R_drew)); exact HO231.out) hb); have n3_ := Aside0.mk (Kd.R_below (by (with_reducible repeat (first | apply Kd.R_alloc | apply Kd.R_drewN | apply Kd.R_drew)); exact HO235.out) hb); have n4_ := Aside0.mk (below_step (by repeat (first | (with_reducible first | exact HB.out | apply below_alloc | apply pw_below_drewN | apply below_drew1) | exact HB.out)) hb); clear HO_12; clear HO227; clear HO231; clear HO235; clear HB; have HO_12 := n0_; have HO227 := n1_; have HO231 := n2_; have HO235 := n3_; have HB := n4_; clear n0_ n1_ n2_ n3_ n4_; (try clear hb); (try clear hb2); (try clear hk); (try clear hi)) | (go_at_call 20; (with_reducible refine (HW.len_as LT_l2_ji7.out (phaetonref01_Spread.calls k1 _ _ (l2.take ((ji7) : Int).toNat) t237 _ ?side1 ?side2 A43.out)).mono ?_); (case side1 => repeat (first | exact (Kd.C_below HR210.out HB.out) | (with_reducible refine Kd.C_alloc ?_ _) | (with_reducible refine Kd.C_drewN ?_ _) | (with_reducible refine Kd.C_drew ?_))); (case side2 => exact HC210.out); rintro e w64 ⟨v238, rfl, ho0, hb⟩; have n0_ := Aside0.mk (Kd.R_below (by (with_reducible repeat (first | apply Kd.R_alloc | apply Kd.R_drewN | apply Kd.R_drew)); exact HO_12.out) hb); have n1_ := Aside0.mk (Kd.R_elder' (by (with_reducible repeat (first | apply Kd.R_alloc | apply Kd.R_drewN | apply Kd.R_drew)); exact HO227.out) (Kd.R_base ho0) hb); have n2_ := Aside0.mk (Kd.R_elder' (by (with_reducible repeat (first | apply Kd.R_alloc | apply Kd.R_drewN | apply Kd.R_drew)); exact HO231.out) (Kd.R_base ho0) hb); have n3_ := Aside0.mk (Kd.R_elder' (by (with_reducible repeat (first | apply Kd.R_alloc | apply Kd.R_drewN | apply Kd.R_drew)); exact HO235.out) (Kd.R_base ho0) hb); have n4_ := Aside0.mk (Kd.R_lower (Kd.R_new' (Kd.R_new' (Kd.R_new' ho0 (Kd.R_lt (by (with_reducible repeat (first | apply Kd.R_alloc | apply Kd.R_drewN | apply Kd.R_drew)); exact HO227.out))) (Kd.R_lt (by (with_reducible repeat (first | apply Kd.R_alloc | apply Kd.R_drewN | apply Kd.R_drew)); exact HO231.out))) (Kd.R_lt (by (with_reducible repeat (first | apply Kd.R_alloc | apply Kd.R_drewN | apply Kd.R_drew)); exact HO235.out))) (below_size (by repeat (first | (with_reducible first | exact HB.out | apply below_alloc | apply pw_below_drewN | apply below_drew1) | exact HB.out)))); have n5_ := Aside0.mk (below_step (by repeat (first | (with_reducible first | exact HB.out | apply below_alloc | apply pw_below_drewN | apply below_drew1) | exact HB.out)) hb); clear HO_12; clear HO227; clear HO231; clear HO235; clear HB; have HO_12 := n0_; have HO227 := n1_; have HO231 := n2_; have HO235 := n3_; have HO239 := n4_; have HB := n5_; clear n0_ n1_ n2_ n3_ n4_ n5_; (try clear hb); (try clear hb2); (try clear hk); (try clear hi); (try clear ho0); obtain ⟨Ao65, co65, eo65⟩ := Kd.R_slice HO239.out; subst eo65) | (go_at_call 12; (with_reducible refine (crc_Bits.calls _ _ t237 t240 _ ?side1 ?side2 A44.out).mono ?_); (case side1 => repeat (first | exact (Kd.R_reads' HO239.out).2.2 | (with_reducible refine Kd.C_alloc ?_ _) | (with_reducible refine Kd.C_drewN ?_ _) | (with_reducible refine Kd.C_drew ?_))); (case side2 => exact (Kd.R_reads' HO239.out).2.1); rintro e w66 ⟨rfl, hb⟩; have n0_ := Aside0.mk (Kd.R_below (by (with_reducible repeat (first | apply Kd.R_alloc | apply Kd.R_drewN | apply Kd.R_drew)); exact HO_12.out) hb); have n1_ := Aside0.mk (Kd.R_below (by (with_reducible repeat (first | apply Kd.R_alloc | apply Kd.R_drewN | apply Kd.R_drew)); exact HO227.out) hb); have n2_ := Aside0.mk (Kd.R_below (by (with_reducible repeat (first | apply Kd.R_alloc | apply Kd.R_drewN | apply Kd.R_drew)); exact HO231.out) hb); have n3_ := Aside0.mk (Kd.R_below (by (with_reducible repeat (first | apply Kd.R_alloc | apply Kd.R_drewN | apply Kd.R_drew)); exact HO235.out) hb); have n4_ := Aside0.mk (Kd.R_below (by (with_reducible repeat (first | apply Kd.R_alloc | apply Kd.R_drewN | apply Kd.R_drew)); exact HO239.out) hb); have n5_ := Aside0.mk (below_step (by repeat (first | (with_reducible first | exact HB.out | apply below_alloc | apply pw_below_drewN | apply below_drew1) | exact HB.out)) hb); clear HO_12; clear HO227; clear HO231; clear HO235; clear HO239; clear HB; have HO_12 := n0_; have HO227 := n1_; have HO231 := n2_; have HO235 := n3_; have HO239 := n4_; have HB := n5_; clear n0_ n1_ n2_ n3_ n4_ n5_; (try clear hb); (try clear hb2); (try clear hk); (try clear hi)))
                        go_ret
                        exact ⟨by first | rfl | (simp [errW_none, errW_some] <;> rfl) | (simp only [← hji5, ← hji6, ← hji7]; first | rfl | (simp [errW_none, errW_some] <;> rfl)) | (simp [*, errW_none, errW_some] <;> rfl), by repeat (first | (with_reducible first | exact HB.out | apply below_alloc | apply pw_below_drewN | apply below_drew1) | exact HB.out)⟩
                      · rw [if_neg c45] at H
                        exact absurd H (by simp)
                    · rw [if_neg c36] at H
                      exact absurd H (by simp)
                  · rw [if_neg c31] at H
                    exact absurd H (by simp)
                · replace c26 := Bool.eq_false_iff.mpr c26
                  subst c26
                  have H1 : (none) = some r := by rw [if_neg (show ¬ (false = true) by decide)] at H; exact H
                  clear H
                  have H := H1
                  clear H1
                  exact absurd H (by simp)
        · rw [if_neg c13] at H
          exact absurd H (by simp)
      · rw [if_neg c11] at H
        exact absurd H (by simp)
    · rw [if_neg c9] at H
      exact absurd H (by simp)
  · rw [if_neg c8] at H
    exact absurd H (by simp)

/-- THE ONE PURE STATEMENT of phaetonlaw02_CrcLinear: yours. -/
def phaetonlaw02_CrcLinear.Pure : Prop := ∀ (l0 : List Int) (l1 : List Int) (l2 : List Int), l0.length ≤ maxLen → l0.length * 1 ≤ 140737488351232 → (∀ x ∈ l0, (Lit.int .u8 x).wf = true) → l1.length ≤ maxLen → l1.length * 1 ≤ 140737488351232 → (∀ x ∈ l1, (Lit.int .u8 x).wf = true) → l2.length ≤ maxLen → l2.length * 1 ≤ 140737488351232 → (∀ x ∈ l2, (Lit.int .u8 x).wf = true) → ∃ k, phaetonlaw02_CrcLinear.f k l0 l1 l2 = some true
theorem phaetonlaw02_CrcLinear.walk (P : phaetonlaw02_CrcLinear.Pure) (a0 : Option Addr) (len0 cap0 : Nat) (z0 : List Int) (a1 : Option Addr) (len1 cap1 : Nat) (z1 : List Int) (a2 : Option Addr) (len2 cap2 : Nat) (z2 : List Int) (w : World) (w0 : (a0 = none ∧ len0 = 0 ∧ cap0 = 0 ∧ z0 = []) ∨ ∃ x, a0 = some x ∧ len0 ≤ cap0 ∧ cap0 ≤ maxLen ∧ z0.length = cap0 ∧ (∀ i, i < z0.length → w.cell? (x.add i) = some (.int .u8 (z0.getD i 0))) ∧ ∀ n ∈ z0, (Lit.int .u8 n).wf = true) (y0 : len0 * 1 ≤ 140737488351232) (w1 : (a1 = none ∧ len1 = 0 ∧ cap1 = 0 ∧ z1 = []) ∨ ∃ x, a1 = some x ∧ len1 ≤ cap1 ∧ cap1 ≤ maxLen ∧ z1.length = cap1 ∧ (∀ i, i < z1.length → w.cell? (x.add i) = some (.int .u8 (z1.getD i 0))) ∧ ∀ n ∈ z1, (Lit.int .u8 n).wf = true) (y1 : len1 * 1 ≤ 140737488351232) (w2 : (a2 = none ∧ len2 = 0 ∧ cap2 = 0 ∧ z2 = []) ∨ ∃ x, a2 = some x ∧ len2 ≤ cap2 ∧ cap2 ≤ maxLen ∧ z2.length = cap2 ∧ (∀ i, i < z2.length → w.cell? (x.add i) = some (.int .u8 (z2.getD i 0))) ∧ ∀ n ∈ z2, (Lit.int .u8 n).wf = true) (y2 : len2 * 1 ≤ 140737488351232) :
    Calls Try.prog 7 #[.slice a0 len0 cap0, .slice a1 len1 cap1, .slice a2 len2 cap2] w fun e w' => e = .returned (.bool true) ∧ Below w.heap.size w w' := by
  obtain ⟨l0, rfl, hr0, hm0, hw0, hc0⟩ := ReadsInt.ofRowC w0
  obtain ⟨l1, rfl, hr1, hm1, hw1, hc1⟩ := ReadsInt.ofRowC w1
  obtain ⟨l2, rfl, hr2, hm2, hw2, hc2⟩ := ReadsInt.ofRowC w2
  obtain ⟨k, h⟩ := P l0 l1 l2 hm0 y0 hw0 hm1 y1 hw1 hm2 y2 hw2
  refine (phaetonlaw02_CrcLinear.calls k _ _ l0 _ _ l1 _ _ l2 true w (Kd.C_of_reads (d := (0 : Int)) (h1 := fun _ => rfl) hr0) hc0 (Kd.C_of_reads (d := (0 : Int)) (h1 := fun _ => rfl) hr1) hc1 (Kd.C_of_reads (d := (0 : Int)) (h1 := fun _ => rfl) hr2) hc2 h).mono ?_
  rintro e w' ⟨rfl, hd⟩
  exact ⟨rfl, hd⟩

/-! ### phaetonlaw02_CrcZero: function 8 -/
def phaetonlaw02_CrcZero.j0 : Nat → List Int → List Int → Bool → Bool → Option (Bool)
  | 0, _, _, _, _ => none
  | k + 1, x0, x1, x5, x24 => if x24 = true then (if x5 = true then (some true) else (none)) else ((crc_Bits.f x0).bind fun t243 => ((phaetonref01_Put.f k t243 15).bind fun bt244 => ((crc_Byte.f x1).bind fun t248 => ((crc_Word.f x1).bind fun t249 => (if x5 = true then (if bt244.2 = true then ((some (([] : List Int) : List Int)).bind fun y250 => (if y250.length + x0.length < 17592186044416 then ((some (y250 ++ x0 : List Int)).bind fun y253 => (if y253.length + bt244.1.length < 17592186044416 then ((crc_Bits.f (y253 ++ bt244.1)).bind fun t259 => (if t259 = 0 then (if t248 ≥ 0 then (if t248 < 256 then (if t249 ≥ 0 then (if t249 < 4294967296 then (some true) else (none)) else (none)) else (none)) else (none)) else (none))) else (none))) else (none))) else (none)) else (none))))))
def phaetonlaw02_CrcZero.f (k : Nat) (l0 : List Int) (l1 : List Int) : Option (Bool) := (phaetonlaw02_head.f k).bind fun t241 => (if (l0.length : Int) > 2000 then (phaetonlaw02_CrcZero.j0 k l0 l1 t241 true) else (if (l1.length : Int) > 500 then (phaetonlaw02_CrcZero.j0 k l0 l1 t241 true) else ((phaetonref01_Right.f k l0).bind fun t242 => (phaetonlaw02_CrcZero.j0 k l0 l1 t241 (!t242)))))
theorem phaetonlaw02_CrcZero.mono_l : ∀ k, (∀ y0 y1 y2 y3, LeO (phaetonlaw02_CrcZero.j0 k y0 y1 y2 y3) (phaetonlaw02_CrcZero.j0 (k + 1) y0 y1 y2 y3))
  | 0 => fun _ _ _ _ r h => by simp [phaetonlaw02_CrcZero.j0] at h
  | k + 1 => by
    have ih0 := phaetonlaw02_CrcZero.mono_l k
    · intro y0 y1 y2 y3
      unfold phaetonlaw02_CrcZero.j0
      repeat' first
      | (with_reducible exact ih0 _ _ _ _)
      | (with_reducible exact phaetonlaw02_head.mono _)
      | (with_reducible exact phaetonref01_Put.mono _ _ _)
      | (with_reducible exact phaetonref01_Right.mono _ _)
      | (with_reducible exact LeO.refl _)
      | (with_reducible exact LeO.none _)
      | (with_reducible refine LeO.ite ?_ ?_)
      | (with_reducible refine LeO.bind ?_ (fun _ => ?_))
      | exact ih0 _ _ _ _
      | exact phaetonlaw02_head.mono _
      | exact phaetonref01_Put.mono _ _ _
      | exact phaetonref01_Right.mono _ _
      | exact LeO.none _
      | refine LeO.ite ?_ ?_
      | refine LeO.bind ?_ (fun _ => ?_)
theorem phaetonlaw02_CrcZero.mono : ∀ a0 a1 k, LeO (phaetonlaw02_CrcZero.f k a0 a1) (phaetonlaw02_CrcZero.f (k + 1) a0 a1) := by
  intro a0 a1 k
  have ih0 := phaetonlaw02_CrcZero.mono_l k
  unfold phaetonlaw02_CrcZero.f
  repeat' first
      | (with_reducible exact ih0 _ _ _ _)
      | (with_reducible exact phaetonlaw02_head.mono _)
      | (with_reducible exact phaetonref01_Put.mono _ _ _)
      | (with_reducible exact phaetonref01_Right.mono _ _)
      | (with_reducible exact LeO.refl _)
      | (with_reducible exact LeO.none _)
      | (with_reducible refine LeO.ite ?_ ?_)
      | (with_reducible refine LeO.bind ?_ (fun _ => ?_))
      | exact ih0 _ _ _ _
      | exact phaetonlaw02_head.mono _
      | exact phaetonref01_Put.mono _ _ _
      | exact phaetonref01_Right.mono _ _
      | exact LeO.none _
      | refine LeO.ite ?_ ?_
      | refine LeO.bind ?_ (fun _ => ?_)
set_option maxHeartbeats 8000000 in
set_option maxRecDepth 100000 in
theorem phaetonlaw02_CrcZero.calls (k : Nat) (A0 : Option Addr) (c0 : Nat) (l0 : List Int) (A1 : Option Addr) (c1 : Nat) (l1 : List Int) (r : Bool) (w : World) (hr0 : Kd.C (Kd.int .i64) w A0 l0.length l0) (hc0 : l0.length ≤ c0) (hr1 : Kd.C (Kd.int .u8) w A1 l1.length l1) (hc1 : l1.length ≤ c1) (h : phaetonlaw02_CrcZero.f k l0 l1 = some r) :
    Calls Try.prog 8 #[.slice A0 l0.length c0, .slice A1 l1.length c1] w fun e w' => e = .returned (.bool r) ∧ Below w.heap.size w w' := by
  have HR0 := Aside0.mk hr0
  have HC0 := Aside0.mk hc0
  clear hr0 hc0
  have HR1 := Aside0.mk hr1
  have HC1 := Aside0.mk hc1
  clear hr1 hc1
  have HB := Aside0.mk (Below.refl w.heap.size w)
  have H : ((phaetonlaw02_head.f k).bind fun t241 => (if (l0.length : Int) > 2000 then (phaetonlaw02_CrcZero.j0 k l0 l1 t241 true) else (if (l1.length : Int) > 500 then (phaetonlaw02_CrcZero.j0 k l0 l1 t241 true) else ((phaetonref01_Right.f k l0).bind fun t242 => (phaetonlaw02_CrcZero.j0 k l0 l1 t241 (!t242)))))) = some r := h
  clear h
  replace H := Option.bind_eq_some_iff.mp H
  obtain ⟨t241, A30, H⟩ := H
  replace H : (if (l0.length : Int) > 2000 then (phaetonlaw02_CrcZero.j0 k l0 l1 t241 true) else (if (l1.length : Int) > 500 then (phaetonlaw02_CrcZero.j0 k l0 l1 t241 true) else ((phaetonref01_Right.f k l0).bind fun t242 => (phaetonlaw02_CrcZero.j0 k l0 l1 t241 (!t242))))) = some r := H
  have A3 := Aside0.mk A30
  clear A30
  have HC4 := Aside0.mk H
  clear H
  go_enter Try.func8, Try.ntmps8
  go_upto_region 2 with (first | ((with_reducible refine gate_callee (f := 10) rfl ?_); refine goesL_ (some 11) rfl rfl Try.func10 (by kernel_rfl) rfl #[] rfl (by (try simp only [List.map_toArray, List.map_cons, List.map_nil]); first | done | rfl | (simp only [List.length_drop, List.length_take]; rfl)) ?_; (with_reducible refine (phaetonlaw02_head.calls k  t241 _ A3.out).mono ?_); rintro e w5 ⟨rfl, hb⟩; refine ⟨_, rfl, ?_⟩; have n0_ := Aside0.mk (below_step (by repeat (first | (with_reducible first | exact HB.out | apply below_alloc | apply pw_below_drewN | apply below_drew1) | exact HB.out)) hb); clear HB; have HB := n0_; clear n0_; (try clear hb); (try clear hb2); (try clear hk); (try clear hi)))
  (try simp only [Act.put, List.setIfInBounds_toArray, List.set_cons_zero, List.set_cons_succ])
  go_cut [24] (fun v24 wc => ∃ (kq : Nat) (x24_3 : Bool), v24 = .bool x24_3 ∧ Aside0 (phaetonlaw02_CrcZero.j0 kq l0 l1 t241 x24_3 = some r) ∧ Aside0 (kq ≤ k) ∧ Aside0 (Below w.heap.size w wc))
  case first =>
    have H := HC4.out
    clear HC4
    by_cases c6 : (l0.length : Int) > 2000
    · rw [if_pos c6] at H
      have c6b0 : decide (2000 < (l0.length : Int)) = true := decide_eq_true c6
      have c6b1 : decide (2000 < l0.length) = true := decide_eq_true (by omega)
      clear c6
      (first | rw [c6b0] | (simp only [i64_w, i32_w]; rw [c6b0]) | skip)
      have H' := Aside0.mk H
      clear H
      go_wp2
      go_meet
      case rel => exact ⟨_, (true), (by first | rfl | (simp; done) | (simp [*]; done)), H', ⟨by first | omega | exact Nat.le_refl _⟩, ⟨by repeat (first | (with_reducible first | exact HB.out | apply below_alloc | apply pw_below_drewN | apply below_drew1) | exact HB.out)⟩⟩
    · rw [if_neg c6] at H
      have c6b0 : decide (2000 < (l0.length : Int)) = false := decide_eq_false c6
      have c6b1 : decide (2000 < l0.length) = false := decide_eq_false (by omega)
      clear c6
      (first | rw [c6b0] | (simp only [i64_w, i32_w]; rw [c6b0]) | skip)
      by_cases c7 : (l1.length : Int) > 500
      · rw [if_pos c7] at H
        have c7b0 : decide (500 < (l1.length : Int)) = true := decide_eq_true c7
        have c7b1 : decide (500 < l1.length) = true := decide_eq_true (by omega)
        clear c7
        have H' := Aside0.mk H
        clear H
        go_wp2
        go_meet
        case rel => exact ⟨_, (true), (by first | rfl | (simp; done) | (simp [*]; done)), H', ⟨by first | omega | exact Nat.le_refl _⟩, ⟨by repeat (first | (with_reducible first | exact HB.out | apply below_alloc | apply pw_below_drewN | apply below_drew1) | exact HB.out)⟩⟩
      · rw [if_neg c7] at H
        have c7b0 : decide (500 < (l1.length : Int)) = false := decide_eq_false c7
        have c7b1 : decide (500 < l1.length) = false := decide_eq_false (by omega)
        clear c7
        replace H := Option.bind_eq_some_iff.mp H
        obtain ⟨t242, A80, H⟩ := H
        replace H : (phaetonlaw02_CrcZero.j0 k l0 l1 t241 (!t242)) = some r := H
        have A8 := Aside0.mk A80
        clear A80
        have H' := Aside0.mk H
        clear H
        go_wp2_with (first | (go_at_call 11; (with_reducible refine (phaetonref01_Right.calls k _ _ l0 t242 _ ?side1 ?side2 A8.out).mono ?_); (case side1 => repeat (first | exact (Kd.C_below HR0.out HB.out) | (with_reducible refine Kd.C_alloc ?_ _) | (with_reducible refine Kd.C_drewN ?_ _) | (with_reducible refine Kd.C_drew ?_))); (case side2 => exact HC0.out); rintro e w' ⟨rfl, ⟨nd, rfl⟩⟩))
        go_meet
        case rel => exact ⟨_, (!t242), (by first | rfl | (simp; done) | (simp [*]; done)), H', ⟨by first | omega | exact Nat.le_refl _⟩, ⟨by repeat (first | (with_reducible first | exact HB.out | apply below_alloc | apply pw_below_drewN | apply below_drew1) | exact HB.out)⟩⟩
  case rest =>
    clear HC4
    try clear c1
    try clear p2
    try clear c6
    try clear c6b0
    try clear c6b1
    try clear c7
    try clear c7b0
    try clear c7b1
    try clear c8
    obtain ⟨kq, x24_3, rfl, HA, HJ3, HB⟩ := hcut
    cases kq with
    | zero => exact absurd HA.out (by simp [phaetonlaw02_CrcZero.j0])
    | succ kj3 =>
      have H := HA.out
      clear HA
      simp only [phaetonlaw02_CrcZero.j0] at H
      by_cases c9 : x24_3 = true
      · subst c9
        have H1 : (if t241 = true then (some true) else (none)) = some r := by rw [if_pos rfl] at H; exact H
        clear H
        have H := H1
        clear H1
        by_cases c10 : t241 = true
        · subst c10
          have H1 : (some true) = some r := by rw [if_pos rfl] at H; exact H
          clear H
          have H := H1
          clear H1
          obtain rfl := Option.some.inj H
          go_wp2
          go_ret
          exact ⟨by first | rfl | (simp [errW_none, errW_some] <;> rfl) | (simp [*, errW_none, errW_some] <;> rfl), by repeat (first | (with_reducible first | exact HB.out | apply below_alloc | apply pw_below_drewN | apply below_drew1) | exact HB.out)⟩
        · replace c10 := Bool.eq_false_iff.mpr c10
          subst c10
          have H1 : (none) = some r := by rw [if_neg (show ¬ (false = true) by decide)] at H; exact H
          clear H
          have H := H1
          clear H1
          exact absurd H (by simp)
      · replace c9 := Bool.eq_false_iff.mpr c9
        subst c9
        have H1 : ((crc_Bits.f l0).bind fun t243 => ((phaetonref01_Put.f kj3 t243 15).bind fun bt244 => ((crc_Byte.f l1).bind fun t248 => ((crc_Word.f l1).bind fun t249 => (if t241 = true then (if bt244.2 = true then ((some (([] : List Int) : List Int)).bind fun y250 => (if y250.length + l0.length < 17592186044416 then ((some (y250 ++ l0 : List Int)).bind fun y253 => (if y253.length + bt244.1.length < 17592186044416 then ((crc_Bits.f (y253 ++ bt244.1)).bind fun t259 => (if t259 = 0 then (if t248 ≥ 0 then (if t248 < 256 then (if t249 ≥ 0 then (if t249 < 4294967296 then (some true) else (none)) else (none)) else (none)) else (none)) else (none))) else (none))) else (none))) else (none)) else (none)))))) = some r := by rw [if_neg (show ¬ (false = true) by decide)] at H; exact H
        clear H
        have H := H1
        clear H1
        replace H := Option.bind_eq_some_iff.mp H
        obtain ⟨t243, A110, H⟩ := H
        replace H : ((phaetonref01_Put.f kj3 t243 15).bind fun bt244 => ((crc_Byte.f l1).bind fun t248 => ((crc_Word.f l1).bind fun t249 => (if t241 = true then (if bt244.2 = true then ((some (([] : List Int) : List Int)).bind fun y250 => (if y250.length + l0.length < 17592186044416 then ((some (y250 ++ l0 : List Int)).bind fun y253 => (if y253.length + bt244.1.length < 17592186044416 then ((crc_Bits.f (y253 ++ bt244.1)).bind fun t259 => (if t259 = 0 then (if t248 ≥ 0 then (if t248 < 256 then (if t249 ≥ 0 then (if t249 < 4294967296 then (some true) else (none)) else (none)) else (none)) else (none)) else (none))) else (none))) else (none))) else (none)) else (none))))) = some r := H
        have A11 := Aside0.mk A110
        clear A110
        replace H := Option.bind_eq_some_iff.mp H
        obtain ⟨⟨t244, t245⟩, A120, H⟩ := H
        replace H : ((crc_Byte.f l1).bind fun t248 => ((crc_Word.f l1).bind fun t249 => (if t241 = true then (if t245 = true then ((some (([] : List Int) : List Int)).bind fun y250 => (if y250.length + l0.length < 17592186044416 then ((some (y250 ++ l0 : List Int)).bind fun y253 => (if y253.length + t244.length < 17592186044416 then ((crc_Bits.f (y253 ++ t244)).bind fun t259 => (if t259 = 0 then (if t248 ≥ 0 then (if t248 < 256 then (if t249 ≥ 0 then (if t249 < 4294967296 then (some true) else (none)) else (none)) else (none)) else (none)) else (none))) else (none))) else (none))) else (none)) else (none)))) = some r := H
        have A12 := Aside0.mk A120
        clear A120
        replace H := Option.bind_eq_some_iff.mp H
        obtain ⟨t248, A130, H⟩ := H
        replace H : ((crc_Word.f l1).bind fun t249 => (if t241 = true then (if t245 = true then ((some (([] : List Int) : List Int)).bind fun y250 => (if y250.length + l0.length < 17592186044416 then ((some (y250 ++ l0 : List Int)).bind fun y253 => (if y253.length + t244.length < 17592186044416 then ((crc_Bits.f (y253 ++ t244)).bind fun t259 => (if t259 = 0 then (if t248 ≥ 0 then (if t248 < 256 then (if t249 ≥ 0 then (if t249 < 4294967296 then (some true) else (none)) else (none)) else (none)) else (none)) else (none))) else (none))) else (none))) else (none)) else (none))) = some r := H
        have A13 := Aside0.mk A130
        clear A130
        replace H := Option.bind_eq_some_iff.mp H
        obtain ⟨t249, A140, H⟩ := H
        replace H : (if t241 = true then (if t245 = true then ((some (([] : List Int) : List Int)).bind fun y250 => (if y250.length + l0.length < 17592186044416 then ((some (y250 ++ l0 : List Int)).bind fun y253 => (if y253.length + t244.length < 17592186044416 then ((crc_Bits.f (y253 ++ t244)).bind fun t259 => (if t259 = 0 then (if t248 ≥ 0 then (if t248 < 256 then (if t249 ≥ 0 then (if t249 < 4294967296 then (some true) else (none)) else (none)) else (none)) else (none)) else (none))) else (none))) else (none))) else (none)) else (none)) = some r := H
        have A14 := Aside0.mk A140
        clear A140
        by_cases c15 : t241 = true
        · subst c15
          have H1 : (if t245 = true then ((some (([] : List Int) : List Int)).bind fun y250 => (if y250.length + l0.length < 17592186044416 then ((some (y250 ++ l0 : List Int)).bind fun y253 => (if y253.length + t244.length < 17592186044416 then ((crc_Bits.f (y253 ++ t244)).bind fun t259 => (if t259 = 0 then (if t248 ≥ 0 then (if t248 < 256 then (if t249 ≥ 0 then (if t249 < 4294967296 then (some true) else (none)) else (none)) else (none)) else (none)) else (none))) else (none))) else (none))) else (none)) = some r := by rw [if_pos rfl] at H; exact H
          clear H
          have H := H1
          clear H1
          by_cases c16 : t245 = true
          · subst c16
            have H1 : ((some (([] : List Int) : List Int)).bind fun y250 => (if y250.length + l0.length < 17592186044416 then ((some (y250 ++ l0 : List Int)).bind fun y253 => (if y253.length + t244.length < 17592186044416 then ((crc_Bits.f (y253 ++ t244)).bind fun t259 => (if t259 = 0 then (if t248 ≥ 0 then (if t248 < 256 then (if t249 ≥ 0 then (if t249 < 4294967296 then (some true) else (none)) else (none)) else (none)) else (none)) else (none))) else (none))) else (none))) = some r := by rw [if_pos rfl] at H; exact H
            clear H
            have H := H1
            clear H1
            obtain ⟨y250, hy250⟩ : ∃ y_ : List Int, y_ = (([] : List Int)) := ⟨_, rfl⟩
            replace H : (if y250.length + l0.length < 17592186044416 then ((some (y250 ++ l0 : List Int)).bind fun y253 => (if y253.length + t244.length < 17592186044416 then ((crc_Bits.f (y253 ++ t244)).bind fun t259 => (if t259 = 0 then (if t248 ≥ 0 then (if t248 < 256 then (if t249 ≥ 0 then (if t249 < 4294967296 then (some true) else (none)) else (none)) else (none)) else (none)) else (none))) else (none))) else (none)) = some r := by first | (rw [hy250]; with_reducible exact H) | (have H2_ := (Option.bind_some _ _).symm.trans H; rw [hy250]; with_reducible exact H2_) | (have H2_ := (Option.bind_some _ _).symm.trans H; with_reducible exact H2_) | with_reducible exact H | (rw [hy250]; exact H) | exact H
            have Ny250 := Aside0.mk hy250
            clear hy250
            by_cases c17 : y250.length + l0.length < 17592186044416
            · rw [if_pos c17] at H
              have LMc17 := Aside0.mk c17
              clear c17
              obtain ⟨y253, hy253⟩ : ∃ y_ : List Int, y_ = (y250 ++ l0) := ⟨_, rfl⟩
              replace H : (if y253.length + t244.length < 17592186044416 then ((crc_Bits.f (y253 ++ t244)).bind fun t259 => (if t259 = 0 then (if t248 ≥ 0 then (if t248 < 256 then (if t249 ≥ 0 then (if t249 < 4294967296 then (some true) else (none)) else (none)) else (none)) else (none)) else (none))) else (none)) = some r := by first | (rw [hy253]; with_reducible exact H) | (have H2_ := (Option.bind_some _ _).symm.trans H; rw [hy253]; with_reducible exact H2_) | (have H2_ := (Option.bind_some _ _).symm.trans H; with_reducible exact H2_) | with_reducible exact H | (rw [hy253]; exact H) | exact H
              have Ny253 := Aside0.mk hy253
              clear hy253
              by_cases c18 : y253.length + t244.length < 17592186044416
              · rw [if_pos c18] at H
                have LMc18 := Aside0.mk c18
                clear c18
                obtain ⟨y256, hy256⟩ : ∃ y_ : List Int, y_ = (y253 ++ t244) := ⟨_, rfl⟩
                replace H : ((crc_Bits.f y256).bind fun t259 => (if t259 = 0 then (if t248 ≥ 0 then (if t248 < 256 then (if t249 ≥ 0 then (if t249 < 4294967296 then (some true) else (none)) else (none)) else (none)) else (none)) else (none))) = some r := by first | (rw [hy256]; with_reducible exact H) | (have H2_ := (Option.bind_some _ _).symm.trans H; rw [hy256]; with_reducible exact H2_) | (have H2_ := (Option.bind_some _ _).symm.trans H; with_reducible exact H2_) | with_reducible exact H | (rw [hy256]; exact H) | exact H
                have Ny256 := Aside0.mk hy256
                clear hy256
                replace H := Option.bind_eq_some_iff.mp H
                obtain ⟨t259, A190, H⟩ := H
                replace H : (if t259 = 0 then (if t248 ≥ 0 then (if t248 < 256 then (if t249 ≥ 0 then (if t249 < 4294967296 then (some true) else (none)) else (none)) else (none)) else (none)) else (none)) = some r := H
                have A19 := Aside0.mk A190
                clear A190
                by_cases c20 : t259 = 0
                · rw [if_pos c20] at H
                  have c20b0 : (t259 == 0) = true := beq_iff_eq.mpr c20
                  have c20b1 : (t259 != 0) = false := bne_eq_false_iff_eq.mpr c20
                  clear c20
                  by_cases c21 : t248 ≥ 0
                  · rw [if_pos c21] at H
                    have c21b0 : decide (0 ≤ t248) = true := decide_eq_true c21
                    clear c21
                    by_cases c22 : t248 < 256
                    · rw [if_pos c22] at H
                      have c22b0 : decide (t248 < 256) = true := decide_eq_true c22
                      clear c22
                      by_cases c23 : t249 ≥ 0
                      · rw [if_pos c23] at H
                        have c23b0 : decide (0 ≤ t249) = true := decide_eq_true c23
                        clear c23
                        by_cases c24 : t249 < 4294967296
                        · rw [if_pos c24] at H
                          have c24b0 : decide (t249 < 4294967296) = true := decide_eq_true c24
                          clear c24
                          obtain rfl := Option.some.inj H
                          go_wp2_with (first | ((with_reducible refine gate_callee (f := 12) rfl ?_); refine goesL_ (some 27) rfl rfl Try.func12 (by kernel_rfl) rfl #[.slice A0 l0.length c0] rfl (by (try simp only [List.map_toArray, List.map_cons, List.map_nil]); first | done | rfl | (simp only [List.length_drop, List.length_take]; rfl)) ?_; (with_reducible refine (crc_Bits.calls _ _ l0 t243 _ ?side1 ?side2 A11.out).mono ?_); (case side1 => repeat (first | exact (Kd.C_below HR0.out HB.out) | (with_reducible refine Kd.C_alloc ?_ _) | (with_reducible refine Kd.C_drewN ?_ _) | (with_reducible refine Kd.C_drew ?_))); (case side2 => exact HC0.out); rintro e w25 ⟨rfl, hb⟩; refine ⟨_, rfl, ?_⟩; have n0_ := Aside0.mk (below_step (by repeat (first | (with_reducible first | exact HB.out | apply below_alloc | apply pw_below_drewN | apply below_drew1) | exact HB.out)) hb); clear HB; have HB := n0_; clear n0_; (try clear hb); (try clear hb2); (try clear hk); (try clear hi)) | ((with_reducible refine gate_callee (f := 21) rfl ?_); refine goesL_ (some 30) rfl rfl Try.func21 (by kernel_rfl) rfl #[.int .i64 t243, .int .i64 15] rfl (by (try simp only [List.map_toArray, List.map_cons, List.map_nil]); first | done | rfl | (simp only [List.length_drop, List.length_take]; rfl)) ?_; (with_reducible refine (phaetonref01_Put.calls kj3 t243 15 t244 true _ A12.out).mono ?_); rintro e w26 ⟨v246, rfl, ho0, hb⟩; refine ⟨_, rfl, ?_⟩; have n0_ := Aside0.mk (Kd.R_lower ho0 (below_size (by repeat (first | (with_reducible first | exact HB.out | apply below_alloc | apply pw_below_drewN | apply below_drew1) | exact HB.out)))); have n1_ := Aside0.mk (below_step (by repeat (first | (with_reducible first | exact HB.out | apply below_alloc | apply pw_below_drewN | apply below_drew1) | exact HB.out)) hb); clear HB; have HO247 := n0_; have HB := n1_; clear n0_ n1_; (try clear hb); (try clear hb2); (try clear hk); (try clear hi); (try clear ho0)) | ((with_reducible refine gate_callee (f := 14) rfl ?_); refine goesL_ (some 34) rfl rfl Try.func14 (by kernel_rfl) rfl #[.slice A1 l1.length c1] rfl (by (try simp only [List.map_toArray, List.map_cons, List.map_nil]); first | done | rfl | (simp only [List.length_drop, List.length_take]; rfl)) ?_; (with_reducible refine (crc_Byte.calls _ _ l1 t248 _ ?side1 ?side2 A13.out).mono ?_); (case side1 => repeat (first | exact (Kd.C_below HR1.out HB.out) | (with_reducible refine Kd.C_alloc ?_ _) | (with_reducible refine Kd.C_drewN ?_ _) | (with_reducible refine Kd.C_drew ?_))); (case side2 => exact HC1.out); rintro e w27 ⟨rfl, hb⟩; refine ⟨_, rfl, ?_⟩; have n0_ := Aside0.mk (Kd.R_below (by (with_reducible repeat (first | apply Kd.R_alloc | apply Kd.R_drewN | apply Kd.R_drew)); exact HO247.out) hb); have n1_ := Aside0.mk (below_step (by repeat (first | (with_reducible first | exact HB.out | apply below_alloc | apply pw_below_drewN | apply below_drew1) | exact HB.out)) hb); clear HO247; clear HB; have HO247 := n0_; have HB := n1_; clear n0_ n1_; (try clear hb); (try clear hb2); (try clear hk); (try clear hi)) | ((with_reducible refine gate_callee (f := 16) rfl ?_); refine goesL_ (some 36) rfl rfl Try.func16 (by kernel_rfl) rfl #[.slice A1 l1.length c1] rfl (by (try simp only [List.map_toArray, List.map_cons, List.map_nil]); first | done | rfl | (simp only [List.length_drop, List.length_take]; rfl)) ?_; (with_reducible refine (crc_Word.calls _ _ l1 t249 _ ?side1 ?side2 A14.out).mono ?_); (case side1 => repeat (first | exact (Kd.C_below HR1.out HB.out) | (with_reducible refine Kd.C_alloc ?_ _) | (with_reducible refine Kd.C_drewN ?_ _) | (with_reducible refine Kd.C_drew ?_))); (case side2 => exact HC1.out); rintro e w28 ⟨rfl, hb⟩; refine ⟨_, rfl, ?_⟩; have n0_ := Aside0.mk (Kd.R_below (by (with_reducible repeat (first | apply Kd.R_alloc | apply Kd.R_drewN | apply Kd.R_drew)); exact HO247.out) hb); have n1_ := Aside0.mk (below_step (by repeat (first | (with_reducible first | exact HB.out | apply below_alloc | apply pw_below_drewN | apply below_drew1) | exact HB.out)) hb); clear HO247; clear HB; have HO247 := n0_; have HB := n1_; clear n0_ n1_; (try clear hb); (try clear hb2); (try clear hk); (try clear hi)) | ((with_reducible refine gate_dst (N := 42) rfl ?_); (try (refine gate_guard (by rfl) ?_; dsimp only)); refine Kd.R_lit (Kd.int .i64) _ 3 ?hg (N := 42) ?hd (xs := ([] : List Int)) (inner := []) (ok := fun _ => True) (okp := fun _ => True) ?hr ?hp (fun _ hk => hk) trivial (Below.refl _ _) (Nat.le_refl _) (by simp) ?_; (case hd => rfl); (case hg => rfl); (case hr => first | (go_simp; done) | (go_simp; rfl)); (case hp => exact (Reps.none _ _)); intro v251 w29 ho30 hb hg_ hnew_; clear hg_ hnew_; (first | rw [← Ny250.out] at ho30 | (simp only [Int.reduceToNat] at ho30; rw [← Ny250.out] at ho30)); have n0_ := Aside0.mk (Kd.R_elder' (by (with_reducible repeat (first | apply Kd.R_alloc | apply Kd.R_drewN | apply Kd.R_drew)); exact HO247.out) (Kd.R_base ho30) hb); have n1_ := Aside0.mk (Kd.R_lower (Kd.R_new' ho30 (Kd.R_lt (by (with_reducible repeat (first | apply Kd.R_alloc | apply Kd.R_drewN | apply Kd.R_drew)); exact HO247.out))) (below_size (by repeat (first | (with_reducible first | exact HB.out | apply below_alloc | apply pw_below_drewN | apply below_drew1) | exact HB.out)))); have n2_ := Aside0.mk (below_step (by repeat (first | (with_reducible first | exact HB.out | apply below_alloc | apply pw_below_drewN | apply below_drew1) | exact HB.out)) hb); clear HO247; clear HB; have HO247 := n0_; have HO252 := n1_; have HB := n2_; clear n0_ n1_ n2_; clear hb ho30) | ((with_reducible refine gate_builtin (b := .append) (xs := #[.tmp 42, .tmp 43]) rfl ?_); (try (refine gate_guard (by rfl) ?_; dsimp only)); at_builtin; refine Kd.R_append_rows (Kd.int .i64) (w0 := w) w.heap.size rfl (.tmp 42) (.tmp 43) 22 3 (.int .i64 0) 8 rfl Try.underlying22 info3 rfl (by decide) (by omega) v251 y250 l0 _ _ _ (fun k_ => some k_ ≠ (v246 : Value).ownBlock) (fun _ => False) rfl rfl ?aO ?aR (fun _ _ h => h) (fun _ h => h.elim) ?aF ?aB ?aS ?aL ?_; (case aR => repeat (first | exact (Kd.C_below HR0.out HB.out) | (with_reducible refine Kd.C_alloc ?_ _) | (with_reducible refine Kd.C_drewN ?_ _) | (with_reducible refine Kd.C_drew ?_))); (case aB => exact (by repeat (first | (with_reducible first | exact HB.out | apply below_alloc | apply pw_below_drewN | apply below_drew1) | exact HB.out))); (case aF => exact (fun k_ hk => Kd.fresh' (Kd.R_lt (by (with_reducible repeat (first | apply Kd.R_alloc | apply Kd.R_drewN | apply Kd.R_drew)); exact HO247.out)) k_ hk)); (case aO => exact (by (with_reducible repeat (first | apply Kd.R_alloc | apply Kd.R_drewN | apply Kd.R_drew)); exact Kd.R_mono HO252.out (fun _ hk => hk.2))); (case aS => exact (below_size (by repeat (first | (with_reducible first | exact HB.out | apply below_alloc | apply pw_below_drewN | apply below_drew1) | exact HB.out)))); (case aL => have := LMc17.out; omega); intro v254 w31 ho hb hg hat; rw [← Ny253.out] at ho; have n0_ := Aside0.mk (Kd.R_after (ok := (fun _ => True)) (by (with_reducible repeat (first | apply Kd.R_alloc | apply Kd.R_drewN | apply Kd.R_drew)); exact HO247.out) hg hat); have n1_ := Aside0.mk (hb); have n2_ := Aside0.mk (ho); clear HO247; clear HB; clear HO252; have HO247 := n0_; have HB := n1_; have HO255 := n2_; clear n0_ n1_ n2_; clear ho hb hg hat; obtain ⟨Ao33, co33, eo33⟩ := Kd.R_slice HO247.out; subst eo33) | ((with_reducible refine gate_builtin (b := .append) (xs := #[.tmp 44, .tmp 45]) rfl ?_); (try (refine gate_guard (by rfl) ?_; dsimp only)); at_builtin; refine Kd.R_append_rows (Kd.int .i64) (w0 := w) w.heap.size rfl (.tmp 44) (.tmp 45) 22 3 (.int .i64 0) 8 rfl Try.underlying22 info3 rfl (by decide) (by omega) v254 y253 t244 _ _ _ (fun k_ => some k_ ≠ (.slice Ao33 t244.length co33 : Value).ownBlock) (fun _ => False) rfl rfl ?aO ?aR (fun _ _ h => h) (fun _ h => h.elim) ?aF ?aB ?aS ?aL ?_; (case aR => repeat (first | exact (Kd.R_reads' HO247.out).2.2 | (with_reducible refine Kd.C_alloc ?_ _) | (with_reducible refine Kd.C_drewN ?_ _) | (with_reducible refine Kd.C_drew ?_))); (case aB => exact (by repeat (first | (with_reducible first | exact HB.out | apply below_alloc | apply pw_below_drewN | apply below_drew1) | exact HB.out))); (case aF => exact (fun k_ hk => Kd.fresh' (Kd.R_lt (by (with_reducible repeat (first | apply Kd.R_alloc | apply Kd.R_drewN | apply Kd.R_drew)); exact HO247.out)) k_ hk)); (case aO => exact (by (with_reducible repeat (first | apply Kd.R_alloc | apply Kd.R_drewN | apply Kd.R_drew)); exact HO255.out)); (case aS => exact (below_size (by repeat (first | (with_reducible first | exact HB.out | apply below_alloc | apply pw_below_drewN | apply below_drew1) | exact HB.out)))); (case aL => have := LMc18.out; omega); intro v257 w32 ho hb hg hat; rw [← Ny256.out] at ho; have n0_ := Aside0.mk (Kd.R_after (ok := (fun _ => True)) (by (with_reducible repeat (first | apply Kd.R_alloc | apply Kd.R_drewN | apply Kd.R_drew)); exact HO247.out) hg hat); have n1_ := Aside0.mk (hb); have n2_ := Aside0.mk (ho); clear HO247; clear HB; clear HO255; have HO247 := n0_; have HB := n1_; have HO258 := n2_; clear n0_ n1_ n2_; clear ho hb hg hat; obtain ⟨Ao34, co34, eo34⟩ := Kd.R_slice HO258.out; subst eo34) | (go_at_call 12; (with_reducible refine (crc_Bits.calls _ _ y256 t259 _ ?side1 ?side2 A19.out).mono ?_); (case side1 => repeat (first | exact (Kd.R_reads' HO258.out).2.2 | (with_reducible refine Kd.C_alloc ?_ _) | (with_reducible refine Kd.C_drewN ?_ _) | (with_reducible refine Kd.C_drew ?_))); (case side2 => exact (Kd.R_reads' HO258.out).2.1); rintro e w35 ⟨rfl, hb⟩; have n0_ := Aside0.mk (Kd.R_below (by (with_reducible repeat (first | apply Kd.R_alloc | apply Kd.R_drewN | apply Kd.R_drew)); exact HO247.out) hb); have n1_ := Aside0.mk (Kd.R_below (by (with_reducible repeat (first | apply Kd.R_alloc | apply Kd.R_drewN | apply Kd.R_drew)); exact HO258.out) hb); have n2_ := Aside0.mk (below_step (by repeat (first | (with_reducible first | exact HB.out | apply below_alloc | apply pw_below_drewN | apply below_drew1) | exact HB.out)) hb); clear HO247; clear HO258; clear HB; have HO247 := n0_; have HO258 := n1_; have HB := n2_; clear n0_ n1_ n2_; (try clear hb); (try clear hb2); (try clear hk); (try clear hi)))
                          go_ret
                          exact ⟨by first | rfl | (simp [errW_none, errW_some] <;> rfl) | (simp [*, errW_none, errW_some] <;> rfl), by repeat (first | (with_reducible first | exact HB.out | apply below_alloc | apply pw_below_drewN | apply below_drew1) | exact HB.out)⟩
                        · rw [if_neg c24] at H
                          exact absurd H (by simp)
                      · rw [if_neg c23] at H
                        exact absurd H (by simp)
                    · rw [if_neg c22] at H
                      exact absurd H (by simp)
                  · rw [if_neg c21] at H
                    exact absurd H (by simp)
                · rw [if_neg c20] at H
                  exact absurd H (by simp)
              · rw [if_neg c18] at H
                exact absurd H (by simp)
            · rw [if_neg c17] at H
              exact absurd H (by simp)
          · replace c16 := Bool.eq_false_iff.mpr c16
            subst c16
            have H1 : (none) = some r := by rw [if_neg (show ¬ (false = true) by decide)] at H; exact H
            clear H
            have H := H1
            clear H1
            exact absurd H (by simp)
        · replace c15 := Bool.eq_false_iff.mpr c15
          subst c15
          have H1 : (none) = some r := by rw [if_neg (show ¬ (false = true) by decide)] at H; exact H
          clear H
          have H := H1
          clear H1
          exact absurd H (by simp)

/-- THE ONE PURE STATEMENT of phaetonlaw02_CrcZero: yours. -/
def phaetonlaw02_CrcZero.Pure : Prop := ∀ (l0 : List Int) (l1 : List Int), l0.length ≤ maxLen → l0.length * 8 ≤ 140737488351232 → (∀ x ∈ l0, (Lit.int .i64 x).wf = true) → l1.length ≤ maxLen → l1.length * 1 ≤ 140737488351232 → (∀ x ∈ l1, (Lit.int .u8 x).wf = true) → ∃ k, phaetonlaw02_CrcZero.f k l0 l1 = some true
theorem phaetonlaw02_CrcZero.walk (P : phaetonlaw02_CrcZero.Pure) (a0 : Option Addr) (len0 cap0 : Nat) (z0 : List Int) (a1 : Option Addr) (len1 cap1 : Nat) (z1 : List Int) (w : World) (w0 : (a0 = none ∧ len0 = 0 ∧ cap0 = 0 ∧ z0 = []) ∨ ∃ x, a0 = some x ∧ len0 ≤ cap0 ∧ cap0 ≤ maxLen ∧ z0.length = cap0 ∧ (∀ i, i < z0.length → w.cell? (x.add i) = some (.int .i64 (z0.getD i 0))) ∧ ∀ n ∈ z0, (Lit.int .i64 n).wf = true) (y0 : len0 * 8 ≤ 140737488351232) (w1 : (a1 = none ∧ len1 = 0 ∧ cap1 = 0 ∧ z1 = []) ∨ ∃ x, a1 = some x ∧ len1 ≤ cap1 ∧ cap1 ≤ maxLen ∧ z1.length = cap1 ∧ (∀ i, i < z1.length → w.cell? (x.add i) = some (.int .u8 (z1.getD i 0))) ∧ ∀ n ∈ z1, (Lit.int .u8 n).wf = true) (y1 : len1 * 1 ≤ 140737488351232) :
    Calls Try.prog 8 #[.slice a0 len0 cap0, .slice a1 len1 cap1] w fun e w' => e = .returned (.bool true) ∧ Below w.heap.size w w' := by
  obtain ⟨l0, rfl, hr0, hm0, hw0, hc0⟩ := ReadsInt.ofRowC w0
  obtain ⟨l1, rfl, hr1, hm1, hw1, hc1⟩ := ReadsInt.ofRowC w1
  obtain ⟨k, h⟩ := P l0 l1 hm0 y0 hw0 hm1 y1 hw1
  refine (phaetonlaw02_CrcZero.calls k _ _ l0 _ _ l1 true w (Kd.C_of_reads (d := (0 : Int)) (h1 := fun _ => rfl) hr0) hc0 (Kd.C_of_reads (d := (0 : Int)) (h1 := fun _ => rfl) hr1) hc1 h).mono ?_
  rintro e w' ⟨rfl, hd⟩
  exact ⟨rfl, hd⟩

end Go.Proofs.Ytonffeckadmlcaa.Px

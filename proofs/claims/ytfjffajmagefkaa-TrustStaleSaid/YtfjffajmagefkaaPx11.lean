-- Written by myprint.py, a program of this session's, over the kit's print.py; not a text of print.sh's own.
import Derived.Test.YtfjffajmagefkaaPx0
import Derived.Test.YtfjffajmagefkaaPx2
import Derived.Test.YtfjffajmagefkaaPx3
import Derived.Test.YtfjffajmagefkaaPx4
namespace Go.Proofs.Ytfjffajmagefkaa.Px
open Go.RowKit Go.Proofs.YtfjffajmagefkaaW.PrintWords Go.Proofs.YtfjffajmagefkaaW.PrintLast Go.Proofs.YtfjffajmagefkaaW.PrintMore
attribute [local go_sem] max2_int min2_int max_two min_two max_three min_three max_four min_four   -- for this text's walks alone
set_option linter.unusedVariables false
set_option linter.unusedSimpArgs false

/-! ### phaetonlaw16_TrustStale: function 8 -/
mutual
def phaetonlaw16_TrustStale.j0 : Nat → Int → Int → Int → List Int → List Int → Int → Bool → Bool → Option (Bool)
  | 0, _, _, _, _, _, _, _, _ => none
  | k + 1, x0, x1, x2, x3, x4, x5, x13, x46 => if x46 = true then (if x13 = true then (some true) else (none)) else ((trust_Wrap.f (wrap64 (x0)) (Int.tmod (wrap64 (x1)) 15) x3).bind fun bt369 => ((trust_Wrap.f (wrap64 (x0)) (Int.tmod (wrap64 ((Int.tmod (wrap64 (x1)) 15) + (wrap64 ((Int.tmod (wrap64 (x2)) 14) + 1)))) 15) x3).bind fun bt373 => ((trust_Wrap.f (wrap64 (x0)) (Int.tmod (wrap64 ((wrap64 ((Int.tmod (wrap64 (x1)) 15) + (wrap64 ((Int.tmod (wrap64 (x2)) 14) + 1)))) + 1)) 15) x3).bind fun bt377 => ((trust_New.f).bind fun bt381 => ((trust_Check.f bt381.1 bt381.2.1 bt381.2.2.1 bt381.2.2.2 (wrap64 (x0)) bt369.1 (wrap64 ((Int.tmod (wrap64 (x5)) 14) + 1))).bind fun bt385 => ((trust_Check.f bt385.1 bt385.2.1 bt385.2.2.1 bt385.2.2.2.1 (wrap64 (x0)) bt373.1 (wrap64 ((Int.tmod (wrap64 (x5)) 14) + 1))).bind fun bt394 => ((trust_Check.f bt394.1 bt394.2.1 bt394.2.2.1 bt394.2.2.2.1 (wrap64 (x0)) bt377.1 (wrap64 ((Int.tmod (wrap64 (x5)) 14) + 1))).bind fun bt403 => ((trust_Open.f (wrap64 (x0)) x4).bind fun bt412 => ((trust_Check.f bt394.1 bt394.2.1 bt394.2.2.1 bt394.2.2.2.1 (wrap64 (x0)) x4 (wrap64 ((Int.tmod (wrap64 (x5)) 14) + 1))).bind fun bt417 => (if bt412.2.2 = true then (phaetonlaw16_TrustStale.j1 k x3 x13 (wrap64 ((Int.tmod (wrap64 (x5)) 14) + 1)) (wrap64 ((Int.tmod (wrap64 (x2)) 14) + 1)) bt394.2.2.2.2.1 bt394.2.2.2.2.2 bt403.2.2.2.2.1 bt403.2.2.2.2.2 false) else (if bt417.2.2.2.2.2 = 5 then (if (bt417.1 != bt394.1) = true then (phaetonlaw16_TrustStale.j1 k x3 x13 (wrap64 ((Int.tmod (wrap64 (x5)) 14) + 1)) (wrap64 ((Int.tmod (wrap64 (x2)) 14) + 1)) bt394.2.2.2.2.1 bt394.2.2.2.2.2 bt403.2.2.2.2.1 bt403.2.2.2.2.2 true) else (if bt417.2.1 = bt394.2.1 then (phaetonlaw16_TrustStale.j1 k x3 x13 (wrap64 ((Int.tmod (wrap64 (x5)) 14) + 1)) (wrap64 ((Int.tmod (wrap64 (x2)) 14) + 1)) bt394.2.2.2.2.1 bt394.2.2.2.2.2 bt403.2.2.2.2.1 bt403.2.2.2.2.2 (bt417.2.2.2.1 != (wrap64 (bt394.2.2.2.1 + 1)))) else (phaetonlaw16_TrustStale.j1 k x3 x13 (wrap64 ((Int.tmod (wrap64 (x5)) 14) + 1)) (wrap64 ((Int.tmod (wrap64 (x2)) 14) + 1)) bt394.2.2.2.2.1 bt394.2.2.2.2.2 bt403.2.2.2.2.1 bt403.2.2.2.2.2 true))) else (phaetonlaw16_TrustStale.j1 k x3 x13 (wrap64 ((Int.tmod (wrap64 (x5)) 14) + 1)) (wrap64 ((Int.tmod (wrap64 (x2)) 14) + 1)) bt394.2.2.2.2.1 bt394.2.2.2.2.2 bt403.2.2.2.2.1 bt403.2.2.2.2.2 true))))))))))))
def phaetonlaw16_TrustStale.j1 : Nat → List Int → Bool → Int → Int → List Int → Int → List Int → Int → Bool → Option (Bool)
  | 0, _, _, _, _, _, _, _, _, _ => none
  | k + 1, x3, x13, x14, x16, x27, x28, x30, x31, x165 => if x165 = true then (none) else (if x16 > x14 then (if x16 > 1 then (if x28 = 6 then (if (x27.length : Int) = 0 then (if x16 ≤ x14 then (if x28 = 4 then ((phaetonref01_SameBytes.f x27 x3).bind fun t426 => (if t426 = true then (if x16 = 1 then (if x28 = 1 then (if x13 = true then (if x31 = 1 then ((phaetonref01_SameBytes.f x30 x3).bind fun t427 => (if t427 = true then (some true) else (none))) else (none)) else (none)) else (none)) else (if x13 = true then (if x31 = 1 then ((phaetonref01_SameBytes.f x30 x3).bind fun t428 => (if t428 = true then (some true) else (none))) else (none)) else (none))) else (none))) else (none)) else (if x16 = 1 then (if x28 = 1 then (if x13 = true then (if x31 = 1 then ((phaetonref01_SameBytes.f x30 x3).bind fun t429 => (if t429 = true then (some true) else (none))) else (none)) else (none)) else (none)) else (if x13 = true then (if x31 = 1 then ((phaetonref01_SameBytes.f x30 x3).bind fun t430 => (if t430 = true then (some true) else (none))) else (none)) else (none)))) else (none)) else (none)) else (if x16 ≤ x14 then (if x16 = 1 then (if x28 = 1 then (if x13 = true then (if x31 = 1 then ((phaetonref01_SameBytes.f x30 x3).bind fun t431 => (if t431 = true then (some true) else (none))) else (none)) else (none)) else (none)) else (if x13 = true then (if x31 = 1 then ((phaetonref01_SameBytes.f x30 x3).bind fun t432 => (if t432 = true then (some true) else (none))) else (none)) else (none))) else (if x16 = 1 then (if x28 = 1 then (if x13 = true then (if x31 = 1 then ((phaetonref01_SameBytes.f x30 x3).bind fun t433 => (if t433 = true then (some true) else (none))) else (none)) else (none)) else (none)) else (if x13 = true then (if x31 = 1 then ((phaetonref01_SameBytes.f x30 x3).bind fun t434 => (if t434 = true then (some true) else (none))) else (none)) else (none))))) else (if x16 ≤ x14 then (if x16 > 1 then (if x28 = 4 then ((phaetonref01_SameBytes.f x27 x3).bind fun t435 => (if t435 = true then (if x16 = 1 then (if x28 = 1 then (if x13 = true then (if x31 = 1 then ((phaetonref01_SameBytes.f x30 x3).bind fun t436 => (if t436 = true then (some true) else (none))) else (none)) else (none)) else (none)) else (if x13 = true then (if x31 = 1 then ((phaetonref01_SameBytes.f x30 x3).bind fun t437 => (if t437 = true then (some true) else (none))) else (none)) else (none))) else (none))) else (none)) else (if x16 = 1 then (if x28 = 1 then (if x13 = true then (if x31 = 1 then ((phaetonref01_SameBytes.f x30 x3).bind fun t438 => (if t438 = true then (some true) else (none))) else (none)) else (none)) else (none)) else (if x13 = true then (if x31 = 1 then ((phaetonref01_SameBytes.f x30 x3).bind fun t439 => (if t439 = true then (some true) else (none))) else (none)) else (none)))) else (if x16 = 1 then (if x28 = 1 then (if x13 = true then (if x31 = 1 then ((phaetonref01_SameBytes.f x30 x3).bind fun t440 => (if t440 = true then (some true) else (none))) else (none)) else (none)) else (none)) else (if x13 = true then (if x31 = 1 then ((phaetonref01_SameBytes.f x30 x3).bind fun t441 => (if t441 = true then (some true) else (none))) else (none)) else (none)))))
end
def phaetonlaw16_TrustStale.f (k : Nat) (a0 : Int) (a1 : Int) (a2 : Int) (l3 : List Int) (l4 : List Int) (a5 : Int) : Option (Bool) := (phaetonlaw16_head.f k).bind fun t368 => (if (l3.length : Int) > 6 then (phaetonlaw16_TrustStale.j0 k a0 a1 a2 l3 l4 a5 t368 true) else (phaetonlaw16_TrustStale.j0 k a0 a1 a2 l3 l4 a5 t368 (decide ((l4.length : Int) > 20))))
theorem phaetonlaw16_TrustStale.mono_l : ∀ k, (∀ y0 y1 y2 y3 y4 y5 y6 y7, LeO (phaetonlaw16_TrustStale.j0 k y0 y1 y2 y3 y4 y5 y6 y7) (phaetonlaw16_TrustStale.j0 (k + 1) y0 y1 y2 y3 y4 y5 y6 y7)) ∧ (∀ y0 y1 y2 y3 y4 y5 y6 y7 y8, LeO (phaetonlaw16_TrustStale.j1 k y0 y1 y2 y3 y4 y5 y6 y7 y8) (phaetonlaw16_TrustStale.j1 (k + 1) y0 y1 y2 y3 y4 y5 y6 y7 y8))
  | 0 => ⟨fun _ _ _ _ _ _ _ _ r h => by simp [phaetonlaw16_TrustStale.j0] at h, fun _ _ _ _ _ _ _ _ _ r h => by simp [phaetonlaw16_TrustStale.j1] at h⟩
  | k + 1 => by
    obtain ⟨ih0, ih1⟩ := phaetonlaw16_TrustStale.mono_l k
    refine ⟨?_, ?_⟩
    · intro y0 y1 y2 y3 y4 y5 y6 y7
      unfold phaetonlaw16_TrustStale.j0
      repeat' first
      | (with_reducible exact ih0 _ _ _ _ _ _ _ _)
      | (with_reducible exact ih1 _ _ _ _ _ _ _ _ _)
      | (with_reducible exact phaetonlaw16_head.mono _)
      | (with_reducible exact LeO.refl _)
      | (with_reducible exact LeO.none _)
      | (with_reducible refine LeO.ite ?_ ?_)
      | (with_reducible refine LeO.bind ?_ (fun _ => ?_))
      | exact ih0 _ _ _ _ _ _ _ _
      | exact ih1 _ _ _ _ _ _ _ _ _
      | exact phaetonlaw16_head.mono _
      | exact LeO.none _
      | refine LeO.ite ?_ ?_
      | refine LeO.bind ?_ (fun _ => ?_)
    · intro y0 y1 y2 y3 y4 y5 y6 y7 y8
      unfold phaetonlaw16_TrustStale.j1
      repeat' first
      | (with_reducible exact ih0 _ _ _ _ _ _ _ _)
      | (with_reducible exact ih1 _ _ _ _ _ _ _ _ _)
      | (with_reducible exact phaetonlaw16_head.mono _)
      | (with_reducible exact LeO.refl _)
      | (with_reducible exact LeO.none _)
      | (with_reducible refine LeO.ite ?_ ?_)
      | (with_reducible refine LeO.bind ?_ (fun _ => ?_))
      | exact ih0 _ _ _ _ _ _ _ _
      | exact ih1 _ _ _ _ _ _ _ _ _
      | exact phaetonlaw16_head.mono _
      | exact LeO.none _
      | refine LeO.ite ?_ ?_
      | refine LeO.bind ?_ (fun _ => ?_)
theorem phaetonlaw16_TrustStale.mono : ∀ a0 a1 a2 a3 a4 a5 k, LeO (phaetonlaw16_TrustStale.f k a0 a1 a2 a3 a4 a5) (phaetonlaw16_TrustStale.f (k + 1) a0 a1 a2 a3 a4 a5) := by
  intro a0 a1 a2 a3 a4 a5 k
  obtain ⟨ih0, ih1⟩ := phaetonlaw16_TrustStale.mono_l k
  unfold phaetonlaw16_TrustStale.f
  repeat' first
      | (with_reducible exact ih0 _ _ _ _ _ _ _ _)
      | (with_reducible exact ih1 _ _ _ _ _ _ _ _ _)
      | (with_reducible exact phaetonlaw16_head.mono _)
      | (with_reducible exact LeO.refl _)
      | (with_reducible exact LeO.none _)
      | (with_reducible refine LeO.ite ?_ ?_)
      | (with_reducible refine LeO.bind ?_ (fun _ => ?_))
      | exact ih0 _ _ _ _ _ _ _ _
      | exact ih1 _ _ _ _ _ _ _ _ _
      | exact phaetonlaw16_head.mono _
      | exact LeO.none _
      | refine LeO.ite ?_ ?_
      | refine LeO.bind ?_ (fun _ => ?_)
set_option maxHeartbeats 8000000 in
set_option maxRecDepth 100000 in
theorem phaetonlaw16_TrustStale.calls (k : Nat) (a0 : Int) (a1 : Int) (a2 : Int) (A3 : Option Addr) (c3 : Nat) (l3 : List Int) (A4 : Option Addr) (c4 : Nat) (l4 : List Int) (a5 : Int) (r : Bool) (w : World) (hr3 : Kd.C (Kd.int .u8) w A3 l3.length l3) (hc3 : l3.length ≤ c3) (hr4 : Kd.C (Kd.int .u8) w A4 l4.length l4) (hc4 : l4.length ≤ c4) (h : phaetonlaw16_TrustStale.f k a0 a1 a2 l3 l4 a5 = some r) :
    Calls Try.prog 8 #[.int .u16 a0, .int .u8 a1, .int .u8 a2, .slice A3 l3.length c3, .slice A4 l4.length c4, .int .u8 a5] w fun e w' => e = .returned (.bool r) ∧ Below w.heap.size w w' := by
  have hu24 := Try.underlying24
  have HR3 := Aside0.mk hr3
  have HC3 := Aside0.mk hc3
  clear hr3 hc3
  have HR4 := Aside0.mk hr4
  have HC4 := Aside0.mk hc4
  clear hr4 hc4
  have HB := Aside0.mk (Below.refl w.heap.size w)
  have H : ((phaetonlaw16_head.f k).bind fun t368 => (if (l3.length : Int) > 6 then (phaetonlaw16_TrustStale.j0 k a0 a1 a2 l3 l4 a5 t368 true) else (phaetonlaw16_TrustStale.j0 k a0 a1 a2 l3 l4 a5 t368 (decide ((l4.length : Int) > 20))))) = some r := h
  clear h
  replace H := Option.bind_eq_some_iff.mp H
  obtain ⟨t368, A70, H⟩ := H
  replace H : (if (l3.length : Int) > 6 then (phaetonlaw16_TrustStale.j0 k a0 a1 a2 l3 l4 a5 t368 true) else (phaetonlaw16_TrustStale.j0 k a0 a1 a2 l3 l4 a5 t368 (decide ((l4.length : Int) > 20)))) = some r := H
  have A7 := Aside0.mk A70
  clear A70
  have HC8 := Aside0.mk H
  clear H
  go_enter Try.func8, Try.ntmps8
  (try simp only [List.append])
  go_upto_region 2 with (first | ((with_reducible refine gate_callee (f := 10) rfl ?_); refine goesL_ (some 38) rfl rfl Try.func10 (by kernel_rfl) rfl #[] rfl (by (try simp only [List.map_toArray, List.map_cons, List.map_nil]); first | done | rfl | (simp only [List.length_drop, List.length_take]; rfl)) ?_; (with_reducible refine (phaetonlaw16_head.calls k  t368 _ A7.out).mono ?_); rintro e w9 ⟨rfl, hb⟩; refine ⟨_, rfl, ?_⟩; have n0_ := Aside0.mk (below_step (by repeat (first | (with_reducible first | exact HB.out | apply below_alloc | apply pw_below_drewN | apply below_drew1) | exact HB.out)) hb); clear HB; have HB := n0_; clear n0_; (try clear hb); (try clear hb2); (try clear hk); (try clear hi)))
  (try simp only [Act.put, List.setIfInBounds_toArray, List.set_cons_zero, List.set_cons_succ])
  go_cut [46] (fun v46 wc => ∃ (kq : Nat) (x46_7 : Bool), v46 = .bool x46_7 ∧ Aside0 (phaetonlaw16_TrustStale.j0 kq a0 a1 a2 l3 l4 a5 t368 x46_7 = some r) ∧ Aside0 (kq ≤ k) ∧ Aside0 (Below w.heap.size w wc))
  case first => as_aux_lemma =>
    have H := HC8.out
    clear HC8
    by_cases c10 : (l3.length : Int) > 6
    · rw [if_pos c10] at H
      have c10b0 : decide (6 < (l3.length : Int)) = true := decide_eq_true c10
      have c10b1 : decide (6 < l3.length) = true := decide_eq_true (by omega)
      clear c10
      (first | rw [c10b0] | (simp only [i64_w, i32_w]; rw [c10b0]) | skip)
      have H' := Aside0.mk H
      clear H
      go_wp2
      go_meet
      case rel => exact ⟨_, (true), (by first | rfl | (simp; done) | (simp [*]; done)), H', ⟨by first | omega | exact Nat.le_refl _⟩, ⟨by repeat (first | (with_reducible first | exact HB.out | apply below_alloc | apply pw_below_drewN | apply below_drew1) | exact HB.out)⟩⟩
    · rw [if_neg c10] at H
      have c10b0 : decide (6 < (l3.length : Int)) = false := decide_eq_false c10
      have c10b1 : decide (6 < l3.length) = false := decide_eq_false (by omega)
      clear c10
      (first | rw [c10b0] | (simp only [i64_w, i32_w]; rw [c10b0]) | skip)
      have H' := Aside0.mk H
      clear H
      go_wp2
      go_meet
      case rel => exact ⟨_, (decide ((l4.length : Int) > 20)), (by first | rfl | (simp; done) | (simp [*]; done)), H', ⟨by first | omega | exact Nat.le_refl _⟩, ⟨by repeat (first | (with_reducible first | exact HB.out | apply below_alloc | apply pw_below_drewN | apply below_drew1) | exact HB.out)⟩⟩
  case rest => as_aux_lemma =>
    clear HC8
    try clear c1
    try clear p2
    try clear c3
    try clear c4
    try clear c8
    try clear c10
    try clear c10b0
    try clear c10b1
    obtain ⟨kq, x46_7, rfl, HA, HJ7, HB⟩ := hcut
    cases kq with
    | zero => exact absurd HA.out (by simp [phaetonlaw16_TrustStale.j0])
    | succ kj7 =>
      have H := HA.out
      clear HA
      simp only [phaetonlaw16_TrustStale.j0] at H
      by_cases c11 : x46_7 = true
      · subst c11
        have H1 : (if t368 = true then (some true) else (none)) = some r := by rw [if_pos rfl] at H; exact H
        clear H
        have H := H1
        clear H1
        by_cases c12 : t368 = true
        · subst c12
          have H1 : (some true) = some r := by rw [if_pos rfl] at H; exact H
          clear H
          have H := H1
          clear H1
          obtain rfl := Option.some.inj H
          go_wp2
          go_ret
          exact ⟨by first | rfl | (simp [errW_none, errW_some] <;> rfl) | (simp [*, errW_none, errW_some] <;> rfl), by repeat (first | (with_reducible first | exact HB.out | apply below_alloc | apply pw_below_drewN | apply below_drew1) | exact HB.out)⟩
        · replace c12 := Bool.eq_false_iff.mpr c12
          subst c12
          have H1 : (none) = some r := by rw [if_neg (show ¬ (false = true) by decide)] at H; exact H
          clear H
          have H := H1
          clear H1
          exact absurd H (by simp)
      · replace c11 := Bool.eq_false_iff.mpr c11
        subst c11
        have H1 : ((trust_Wrap.f (wrap64 (a0)) (Int.tmod (wrap64 (a1)) 15) l3).bind fun bt369 => ((trust_Wrap.f (wrap64 (a0)) (Int.tmod (wrap64 ((Int.tmod (wrap64 (a1)) 15) + (wrap64 ((Int.tmod (wrap64 (a2)) 14) + 1)))) 15) l3).bind fun bt373 => ((trust_Wrap.f (wrap64 (a0)) (Int.tmod (wrap64 ((wrap64 ((Int.tmod (wrap64 (a1)) 15) + (wrap64 ((Int.tmod (wrap64 (a2)) 14) + 1)))) + 1)) 15) l3).bind fun bt377 => ((trust_New.f).bind fun bt381 => ((trust_Check.f bt381.1 bt381.2.1 bt381.2.2.1 bt381.2.2.2 (wrap64 (a0)) bt369.1 (wrap64 ((Int.tmod (wrap64 (a5)) 14) + 1))).bind fun bt385 => ((trust_Check.f bt385.1 bt385.2.1 bt385.2.2.1 bt385.2.2.2.1 (wrap64 (a0)) bt373.1 (wrap64 ((Int.tmod (wrap64 (a5)) 14) + 1))).bind fun bt394 => ((trust_Check.f bt394.1 bt394.2.1 bt394.2.2.1 bt394.2.2.2.1 (wrap64 (a0)) bt377.1 (wrap64 ((Int.tmod (wrap64 (a5)) 14) + 1))).bind fun bt403 => ((trust_Open.f (wrap64 (a0)) l4).bind fun bt412 => ((trust_Check.f bt394.1 bt394.2.1 bt394.2.2.1 bt394.2.2.2.1 (wrap64 (a0)) l4 (wrap64 ((Int.tmod (wrap64 (a5)) 14) + 1))).bind fun bt417 => (if bt412.2.2 = true then (phaetonlaw16_TrustStale.j1 kj7 l3 t368 (wrap64 ((Int.tmod (wrap64 (a5)) 14) + 1)) (wrap64 ((Int.tmod (wrap64 (a2)) 14) + 1)) bt394.2.2.2.2.1 bt394.2.2.2.2.2 bt403.2.2.2.2.1 bt403.2.2.2.2.2 false) else (if bt417.2.2.2.2.2 = 5 then (if (bt417.1 != bt394.1) = true then (phaetonlaw16_TrustStale.j1 kj7 l3 t368 (wrap64 ((Int.tmod (wrap64 (a5)) 14) + 1)) (wrap64 ((Int.tmod (wrap64 (a2)) 14) + 1)) bt394.2.2.2.2.1 bt394.2.2.2.2.2 bt403.2.2.2.2.1 bt403.2.2.2.2.2 true) else (if bt417.2.1 = bt394.2.1 then (phaetonlaw16_TrustStale.j1 kj7 l3 t368 (wrap64 ((Int.tmod (wrap64 (a5)) 14) + 1)) (wrap64 ((Int.tmod (wrap64 (a2)) 14) + 1)) bt394.2.2.2.2.1 bt394.2.2.2.2.2 bt403.2.2.2.2.1 bt403.2.2.2.2.2 (bt417.2.2.2.1 != (wrap64 (bt394.2.2.2.1 + 1)))) else (phaetonlaw16_TrustStale.j1 kj7 l3 t368 (wrap64 ((Int.tmod (wrap64 (a5)) 14) + 1)) (wrap64 ((Int.tmod (wrap64 (a2)) 14) + 1)) bt394.2.2.2.2.1 bt394.2.2.2.2.2 bt403.2.2.2.2.1 bt403.2.2.2.2.2 true))) else (phaetonlaw16_TrustStale.j1 kj7 l3 t368 (wrap64 ((Int.tmod (wrap64 (a5)) 14) + 1)) (wrap64 ((Int.tmod (wrap64 (a2)) 14) + 1)) bt394.2.2.2.2.1 bt394.2.2.2.2.2 bt403.2.2.2.2.1 bt403.2.2.2.2.2 true)))))))))))) = some r := by rw [if_neg (show ¬ (false = true) by decide)] at H; exact H
        clear H
        have H := H1
        clear H1
        replace H := Option.bind_eq_some_iff.mp H
        obtain ⟨⟨t369, t370⟩, A130, H⟩ := H
        replace H : ((trust_Wrap.f (wrap64 (a0)) (Int.tmod (wrap64 ((Int.tmod (wrap64 (a1)) 15) + (wrap64 ((Int.tmod (wrap64 (a2)) 14) + 1)))) 15) l3).bind fun bt373 => ((trust_Wrap.f (wrap64 (a0)) (Int.tmod (wrap64 ((wrap64 ((Int.tmod (wrap64 (a1)) 15) + (wrap64 ((Int.tmod (wrap64 (a2)) 14) + 1)))) + 1)) 15) l3).bind fun bt377 => ((trust_New.f).bind fun bt381 => ((trust_Check.f bt381.1 bt381.2.1 bt381.2.2.1 bt381.2.2.2 (wrap64 (a0)) t369 (wrap64 ((Int.tmod (wrap64 (a5)) 14) + 1))).bind fun bt385 => ((trust_Check.f bt385.1 bt385.2.1 bt385.2.2.1 bt385.2.2.2.1 (wrap64 (a0)) bt373.1 (wrap64 ((Int.tmod (wrap64 (a5)) 14) + 1))).bind fun bt394 => ((trust_Check.f bt394.1 bt394.2.1 bt394.2.2.1 bt394.2.2.2.1 (wrap64 (a0)) bt377.1 (wrap64 ((Int.tmod (wrap64 (a5)) 14) + 1))).bind fun bt403 => ((trust_Open.f (wrap64 (a0)) l4).bind fun bt412 => ((trust_Check.f bt394.1 bt394.2.1 bt394.2.2.1 bt394.2.2.2.1 (wrap64 (a0)) l4 (wrap64 ((Int.tmod (wrap64 (a5)) 14) + 1))).bind fun bt417 => (if bt412.2.2 = true then (phaetonlaw16_TrustStale.j1 kj7 l3 t368 (wrap64 ((Int.tmod (wrap64 (a5)) 14) + 1)) (wrap64 ((Int.tmod (wrap64 (a2)) 14) + 1)) bt394.2.2.2.2.1 bt394.2.2.2.2.2 bt403.2.2.2.2.1 bt403.2.2.2.2.2 false) else (if bt417.2.2.2.2.2 = 5 then (if (bt417.1 != bt394.1) = true then (phaetonlaw16_TrustStale.j1 kj7 l3 t368 (wrap64 ((Int.tmod (wrap64 (a5)) 14) + 1)) (wrap64 ((Int.tmod (wrap64 (a2)) 14) + 1)) bt394.2.2.2.2.1 bt394.2.2.2.2.2 bt403.2.2.2.2.1 bt403.2.2.2.2.2 true) else (if bt417.2.1 = bt394.2.1 then (phaetonlaw16_TrustStale.j1 kj7 l3 t368 (wrap64 ((Int.tmod (wrap64 (a5)) 14) + 1)) (wrap64 ((Int.tmod (wrap64 (a2)) 14) + 1)) bt394.2.2.2.2.1 bt394.2.2.2.2.2 bt403.2.2.2.2.1 bt403.2.2.2.2.2 (bt417.2.2.2.1 != (wrap64 (bt394.2.2.2.1 + 1)))) else (phaetonlaw16_TrustStale.j1 kj7 l3 t368 (wrap64 ((Int.tmod (wrap64 (a5)) 14) + 1)) (wrap64 ((Int.tmod (wrap64 (a2)) 14) + 1)) bt394.2.2.2.2.1 bt394.2.2.2.2.2 bt403.2.2.2.2.1 bt403.2.2.2.2.2 true))) else (phaetonlaw16_TrustStale.j1 kj7 l3 t368 (wrap64 ((Int.tmod (wrap64 (a5)) 14) + 1)) (wrap64 ((Int.tmod (wrap64 (a2)) 14) + 1)) bt394.2.2.2.2.1 bt394.2.2.2.2.2 bt403.2.2.2.2.1 bt403.2.2.2.2.2 true))))))))))) = some r := H
        have A13 := Aside0.mk A130
        clear A130
        replace H := Option.bind_eq_some_iff.mp H
        obtain ⟨⟨t373, t374⟩, A140, H⟩ := H
        replace H : ((trust_Wrap.f (wrap64 (a0)) (Int.tmod (wrap64 ((wrap64 ((Int.tmod (wrap64 (a1)) 15) + (wrap64 ((Int.tmod (wrap64 (a2)) 14) + 1)))) + 1)) 15) l3).bind fun bt377 => ((trust_New.f).bind fun bt381 => ((trust_Check.f bt381.1 bt381.2.1 bt381.2.2.1 bt381.2.2.2 (wrap64 (a0)) t369 (wrap64 ((Int.tmod (wrap64 (a5)) 14) + 1))).bind fun bt385 => ((trust_Check.f bt385.1 bt385.2.1 bt385.2.2.1 bt385.2.2.2.1 (wrap64 (a0)) t373 (wrap64 ((Int.tmod (wrap64 (a5)) 14) + 1))).bind fun bt394 => ((trust_Check.f bt394.1 bt394.2.1 bt394.2.2.1 bt394.2.2.2.1 (wrap64 (a0)) bt377.1 (wrap64 ((Int.tmod (wrap64 (a5)) 14) + 1))).bind fun bt403 => ((trust_Open.f (wrap64 (a0)) l4).bind fun bt412 => ((trust_Check.f bt394.1 bt394.2.1 bt394.2.2.1 bt394.2.2.2.1 (wrap64 (a0)) l4 (wrap64 ((Int.tmod (wrap64 (a5)) 14) + 1))).bind fun bt417 => (if bt412.2.2 = true then (phaetonlaw16_TrustStale.j1 kj7 l3 t368 (wrap64 ((Int.tmod (wrap64 (a5)) 14) + 1)) (wrap64 ((Int.tmod (wrap64 (a2)) 14) + 1)) bt394.2.2.2.2.1 bt394.2.2.2.2.2 bt403.2.2.2.2.1 bt403.2.2.2.2.2 false) else (if bt417.2.2.2.2.2 = 5 then (if (bt417.1 != bt394.1) = true then (phaetonlaw16_TrustStale.j1 kj7 l3 t368 (wrap64 ((Int.tmod (wrap64 (a5)) 14) + 1)) (wrap64 ((Int.tmod (wrap64 (a2)) 14) + 1)) bt394.2.2.2.2.1 bt394.2.2.2.2.2 bt403.2.2.2.2.1 bt403.2.2.2.2.2 true) else (if bt417.2.1 = bt394.2.1 then (phaetonlaw16_TrustStale.j1 kj7 l3 t368 (wrap64 ((Int.tmod (wrap64 (a5)) 14) + 1)) (wrap64 ((Int.tmod (wrap64 (a2)) 14) + 1)) bt394.2.2.2.2.1 bt394.2.2.2.2.2 bt403.2.2.2.2.1 bt403.2.2.2.2.2 (bt417.2.2.2.1 != (wrap64 (bt394.2.2.2.1 + 1)))) else (phaetonlaw16_TrustStale.j1 kj7 l3 t368 (wrap64 ((Int.tmod (wrap64 (a5)) 14) + 1)) (wrap64 ((Int.tmod (wrap64 (a2)) 14) + 1)) bt394.2.2.2.2.1 bt394.2.2.2.2.2 bt403.2.2.2.2.1 bt403.2.2.2.2.2 true))) else (phaetonlaw16_TrustStale.j1 kj7 l3 t368 (wrap64 ((Int.tmod (wrap64 (a5)) 14) + 1)) (wrap64 ((Int.tmod (wrap64 (a2)) 14) + 1)) bt394.2.2.2.2.1 bt394.2.2.2.2.2 bt403.2.2.2.2.1 bt403.2.2.2.2.2 true)))))))))) = some r := H
        have A14 := Aside0.mk A140
        clear A140
        replace H := Option.bind_eq_some_iff.mp H
        obtain ⟨⟨t377, t378⟩, A150, H⟩ := H
        replace H : ((trust_New.f).bind fun bt381 => ((trust_Check.f bt381.1 bt381.2.1 bt381.2.2.1 bt381.2.2.2 (wrap64 (a0)) t369 (wrap64 ((Int.tmod (wrap64 (a5)) 14) + 1))).bind fun bt385 => ((trust_Check.f bt385.1 bt385.2.1 bt385.2.2.1 bt385.2.2.2.1 (wrap64 (a0)) t373 (wrap64 ((Int.tmod (wrap64 (a5)) 14) + 1))).bind fun bt394 => ((trust_Check.f bt394.1 bt394.2.1 bt394.2.2.1 bt394.2.2.2.1 (wrap64 (a0)) t377 (wrap64 ((Int.tmod (wrap64 (a5)) 14) + 1))).bind fun bt403 => ((trust_Open.f (wrap64 (a0)) l4).bind fun bt412 => ((trust_Check.f bt394.1 bt394.2.1 bt394.2.2.1 bt394.2.2.2.1 (wrap64 (a0)) l4 (wrap64 ((Int.tmod (wrap64 (a5)) 14) + 1))).bind fun bt417 => (if bt412.2.2 = true then (phaetonlaw16_TrustStale.j1 kj7 l3 t368 (wrap64 ((Int.tmod (wrap64 (a5)) 14) + 1)) (wrap64 ((Int.tmod (wrap64 (a2)) 14) + 1)) bt394.2.2.2.2.1 bt394.2.2.2.2.2 bt403.2.2.2.2.1 bt403.2.2.2.2.2 false) else (if bt417.2.2.2.2.2 = 5 then (if (bt417.1 != bt394.1) = true then (phaetonlaw16_TrustStale.j1 kj7 l3 t368 (wrap64 ((Int.tmod (wrap64 (a5)) 14) + 1)) (wrap64 ((Int.tmod (wrap64 (a2)) 14) + 1)) bt394.2.2.2.2.1 bt394.2.2.2.2.2 bt403.2.2.2.2.1 bt403.2.2.2.2.2 true) else (if bt417.2.1 = bt394.2.1 then (phaetonlaw16_TrustStale.j1 kj7 l3 t368 (wrap64 ((Int.tmod (wrap64 (a5)) 14) + 1)) (wrap64 ((Int.tmod (wrap64 (a2)) 14) + 1)) bt394.2.2.2.2.1 bt394.2.2.2.2.2 bt403.2.2.2.2.1 bt403.2.2.2.2.2 (bt417.2.2.2.1 != (wrap64 (bt394.2.2.2.1 + 1)))) else (phaetonlaw16_TrustStale.j1 kj7 l3 t368 (wrap64 ((Int.tmod (wrap64 (a5)) 14) + 1)) (wrap64 ((Int.tmod (wrap64 (a2)) 14) + 1)) bt394.2.2.2.2.1 bt394.2.2.2.2.2 bt403.2.2.2.2.1 bt403.2.2.2.2.2 true))) else (phaetonlaw16_TrustStale.j1 kj7 l3 t368 (wrap64 ((Int.tmod (wrap64 (a5)) 14) + 1)) (wrap64 ((Int.tmod (wrap64 (a2)) 14) + 1)) bt394.2.2.2.2.1 bt394.2.2.2.2.2 bt403.2.2.2.2.1 bt403.2.2.2.2.2 true))))))))) = some r := H
        have A15 := Aside0.mk A150
        clear A150
        replace H := Option.bind_eq_some_iff.mp H
        obtain ⟨⟨t381, t382, t383, t384⟩, A160, H⟩ := H
        replace H : ((trust_Check.f t381 t382 t383 t384 (wrap64 (a0)) t369 (wrap64 ((Int.tmod (wrap64 (a5)) 14) + 1))).bind fun bt385 => ((trust_Check.f bt385.1 bt385.2.1 bt385.2.2.1 bt385.2.2.2.1 (wrap64 (a0)) t373 (wrap64 ((Int.tmod (wrap64 (a5)) 14) + 1))).bind fun bt394 => ((trust_Check.f bt394.1 bt394.2.1 bt394.2.2.1 bt394.2.2.2.1 (wrap64 (a0)) t377 (wrap64 ((Int.tmod (wrap64 (a5)) 14) + 1))).bind fun bt403 => ((trust_Open.f (wrap64 (a0)) l4).bind fun bt412 => ((trust_Check.f bt394.1 bt394.2.1 bt394.2.2.1 bt394.2.2.2.1 (wrap64 (a0)) l4 (wrap64 ((Int.tmod (wrap64 (a5)) 14) + 1))).bind fun bt417 => (if bt412.2.2 = true then (phaetonlaw16_TrustStale.j1 kj7 l3 t368 (wrap64 ((Int.tmod (wrap64 (a5)) 14) + 1)) (wrap64 ((Int.tmod (wrap64 (a2)) 14) + 1)) bt394.2.2.2.2.1 bt394.2.2.2.2.2 bt403.2.2.2.2.1 bt403.2.2.2.2.2 false) else (if bt417.2.2.2.2.2 = 5 then (if (bt417.1 != bt394.1) = true then (phaetonlaw16_TrustStale.j1 kj7 l3 t368 (wrap64 ((Int.tmod (wrap64 (a5)) 14) + 1)) (wrap64 ((Int.tmod (wrap64 (a2)) 14) + 1)) bt394.2.2.2.2.1 bt394.2.2.2.2.2 bt403.2.2.2.2.1 bt403.2.2.2.2.2 true) else (if bt417.2.1 = bt394.2.1 then (phaetonlaw16_TrustStale.j1 kj7 l3 t368 (wrap64 ((Int.tmod (wrap64 (a5)) 14) + 1)) (wrap64 ((Int.tmod (wrap64 (a2)) 14) + 1)) bt394.2.2.2.2.1 bt394.2.2.2.2.2 bt403.2.2.2.2.1 bt403.2.2.2.2.2 (bt417.2.2.2.1 != (wrap64 (bt394.2.2.2.1 + 1)))) else (phaetonlaw16_TrustStale.j1 kj7 l3 t368 (wrap64 ((Int.tmod (wrap64 (a5)) 14) + 1)) (wrap64 ((Int.tmod (wrap64 (a2)) 14) + 1)) bt394.2.2.2.2.1 bt394.2.2.2.2.2 bt403.2.2.2.2.1 bt403.2.2.2.2.2 true))) else (phaetonlaw16_TrustStale.j1 kj7 l3 t368 (wrap64 ((Int.tmod (wrap64 (a5)) 14) + 1)) (wrap64 ((Int.tmod (wrap64 (a2)) 14) + 1)) bt394.2.2.2.2.1 bt394.2.2.2.2.2 bt403.2.2.2.2.1 bt403.2.2.2.2.2 true)))))))) = some r := H
        have A16 := Aside0.mk A160
        clear A160
        replace H := Option.bind_eq_some_iff.mp H
        obtain ⟨⟨t385, t386, t387, t388, t389, t392⟩, A170, H⟩ := H
        replace H : ((trust_Check.f t385 t386 t387 t388 (wrap64 (a0)) t373 (wrap64 ((Int.tmod (wrap64 (a5)) 14) + 1))).bind fun bt394 => ((trust_Check.f bt394.1 bt394.2.1 bt394.2.2.1 bt394.2.2.2.1 (wrap64 (a0)) t377 (wrap64 ((Int.tmod (wrap64 (a5)) 14) + 1))).bind fun bt403 => ((trust_Open.f (wrap64 (a0)) l4).bind fun bt412 => ((trust_Check.f bt394.1 bt394.2.1 bt394.2.2.1 bt394.2.2.2.1 (wrap64 (a0)) l4 (wrap64 ((Int.tmod (wrap64 (a5)) 14) + 1))).bind fun bt417 => (if bt412.2.2 = true then (phaetonlaw16_TrustStale.j1 kj7 l3 t368 (wrap64 ((Int.tmod (wrap64 (a5)) 14) + 1)) (wrap64 ((Int.tmod (wrap64 (a2)) 14) + 1)) bt394.2.2.2.2.1 bt394.2.2.2.2.2 bt403.2.2.2.2.1 bt403.2.2.2.2.2 false) else (if bt417.2.2.2.2.2 = 5 then (if (bt417.1 != bt394.1) = true then (phaetonlaw16_TrustStale.j1 kj7 l3 t368 (wrap64 ((Int.tmod (wrap64 (a5)) 14) + 1)) (wrap64 ((Int.tmod (wrap64 (a2)) 14) + 1)) bt394.2.2.2.2.1 bt394.2.2.2.2.2 bt403.2.2.2.2.1 bt403.2.2.2.2.2 true) else (if bt417.2.1 = bt394.2.1 then (phaetonlaw16_TrustStale.j1 kj7 l3 t368 (wrap64 ((Int.tmod (wrap64 (a5)) 14) + 1)) (wrap64 ((Int.tmod (wrap64 (a2)) 14) + 1)) bt394.2.2.2.2.1 bt394.2.2.2.2.2 bt403.2.2.2.2.1 bt403.2.2.2.2.2 (bt417.2.2.2.1 != (wrap64 (bt394.2.2.2.1 + 1)))) else (phaetonlaw16_TrustStale.j1 kj7 l3 t368 (wrap64 ((Int.tmod (wrap64 (a5)) 14) + 1)) (wrap64 ((Int.tmod (wrap64 (a2)) 14) + 1)) bt394.2.2.2.2.1 bt394.2.2.2.2.2 bt403.2.2.2.2.1 bt403.2.2.2.2.2 true))) else (phaetonlaw16_TrustStale.j1 kj7 l3 t368 (wrap64 ((Int.tmod (wrap64 (a5)) 14) + 1)) (wrap64 ((Int.tmod (wrap64 (a2)) 14) + 1)) bt394.2.2.2.2.1 bt394.2.2.2.2.2 bt403.2.2.2.2.1 bt403.2.2.2.2.2 true))))))) = some r := H
        have A17 := Aside0.mk A170
        clear A170
        replace H := Option.bind_eq_some_iff.mp H
        obtain ⟨⟨t394, t395, t396, t397, t398, t401⟩, A180, H⟩ := H
        replace H : ((trust_Check.f t394 t395 t396 t397 (wrap64 (a0)) t377 (wrap64 ((Int.tmod (wrap64 (a5)) 14) + 1))).bind fun bt403 => ((trust_Open.f (wrap64 (a0)) l4).bind fun bt412 => ((trust_Check.f t394 t395 t396 t397 (wrap64 (a0)) l4 (wrap64 ((Int.tmod (wrap64 (a5)) 14) + 1))).bind fun bt417 => (if bt412.2.2 = true then (phaetonlaw16_TrustStale.j1 kj7 l3 t368 (wrap64 ((Int.tmod (wrap64 (a5)) 14) + 1)) (wrap64 ((Int.tmod (wrap64 (a2)) 14) + 1)) t398 t401 bt403.2.2.2.2.1 bt403.2.2.2.2.2 false) else (if bt417.2.2.2.2.2 = 5 then (if (bt417.1 != t394) = true then (phaetonlaw16_TrustStale.j1 kj7 l3 t368 (wrap64 ((Int.tmod (wrap64 (a5)) 14) + 1)) (wrap64 ((Int.tmod (wrap64 (a2)) 14) + 1)) t398 t401 bt403.2.2.2.2.1 bt403.2.2.2.2.2 true) else (if bt417.2.1 = t395 then (phaetonlaw16_TrustStale.j1 kj7 l3 t368 (wrap64 ((Int.tmod (wrap64 (a5)) 14) + 1)) (wrap64 ((Int.tmod (wrap64 (a2)) 14) + 1)) t398 t401 bt403.2.2.2.2.1 bt403.2.2.2.2.2 (bt417.2.2.2.1 != (wrap64 (t397 + 1)))) else (phaetonlaw16_TrustStale.j1 kj7 l3 t368 (wrap64 ((Int.tmod (wrap64 (a5)) 14) + 1)) (wrap64 ((Int.tmod (wrap64 (a2)) 14) + 1)) t398 t401 bt403.2.2.2.2.1 bt403.2.2.2.2.2 true))) else (phaetonlaw16_TrustStale.j1 kj7 l3 t368 (wrap64 ((Int.tmod (wrap64 (a5)) 14) + 1)) (wrap64 ((Int.tmod (wrap64 (a2)) 14) + 1)) t398 t401 bt403.2.2.2.2.1 bt403.2.2.2.2.2 true)))))) = some r := H
        have A18 := Aside0.mk A180
        clear A180
        replace H := Option.bind_eq_some_iff.mp H
        obtain ⟨⟨t403, t404, t405, t406, t407, t410⟩, A190, H⟩ := H
        replace H : ((trust_Open.f (wrap64 (a0)) l4).bind fun bt412 => ((trust_Check.f t394 t395 t396 t397 (wrap64 (a0)) l4 (wrap64 ((Int.tmod (wrap64 (a5)) 14) + 1))).bind fun bt417 => (if bt412.2.2 = true then (phaetonlaw16_TrustStale.j1 kj7 l3 t368 (wrap64 ((Int.tmod (wrap64 (a5)) 14) + 1)) (wrap64 ((Int.tmod (wrap64 (a2)) 14) + 1)) t398 t401 t407 t410 false) else (if bt417.2.2.2.2.2 = 5 then (if (bt417.1 != t394) = true then (phaetonlaw16_TrustStale.j1 kj7 l3 t368 (wrap64 ((Int.tmod (wrap64 (a5)) 14) + 1)) (wrap64 ((Int.tmod (wrap64 (a2)) 14) + 1)) t398 t401 t407 t410 true) else (if bt417.2.1 = t395 then (phaetonlaw16_TrustStale.j1 kj7 l3 t368 (wrap64 ((Int.tmod (wrap64 (a5)) 14) + 1)) (wrap64 ((Int.tmod (wrap64 (a2)) 14) + 1)) t398 t401 t407 t410 (bt417.2.2.2.1 != (wrap64 (t397 + 1)))) else (phaetonlaw16_TrustStale.j1 kj7 l3 t368 (wrap64 ((Int.tmod (wrap64 (a5)) 14) + 1)) (wrap64 ((Int.tmod (wrap64 (a2)) 14) + 1)) t398 t401 t407 t410 true))) else (phaetonlaw16_TrustStale.j1 kj7 l3 t368 (wrap64 ((Int.tmod (wrap64 (a5)) 14) + 1)) (wrap64 ((Int.tmod (wrap64 (a2)) 14) + 1)) t398 t401 t407 t410 true))))) = some r := H
        have A19 := Aside0.mk A190
        clear A190
        replace H := Option.bind_eq_some_iff.mp H
        obtain ⟨⟨t412, t413, t414⟩, A200, H⟩ := H
        replace H : ((trust_Check.f t394 t395 t396 t397 (wrap64 (a0)) l4 (wrap64 ((Int.tmod (wrap64 (a5)) 14) + 1))).bind fun bt417 => (if t414 = true then (phaetonlaw16_TrustStale.j1 kj7 l3 t368 (wrap64 ((Int.tmod (wrap64 (a5)) 14) + 1)) (wrap64 ((Int.tmod (wrap64 (a2)) 14) + 1)) t398 t401 t407 t410 false) else (if bt417.2.2.2.2.2 = 5 then (if (bt417.1 != t394) = true then (phaetonlaw16_TrustStale.j1 kj7 l3 t368 (wrap64 ((Int.tmod (wrap64 (a5)) 14) + 1)) (wrap64 ((Int.tmod (wrap64 (a2)) 14) + 1)) t398 t401 t407 t410 true) else (if bt417.2.1 = t395 then (phaetonlaw16_TrustStale.j1 kj7 l3 t368 (wrap64 ((Int.tmod (wrap64 (a5)) 14) + 1)) (wrap64 ((Int.tmod (wrap64 (a2)) 14) + 1)) t398 t401 t407 t410 (bt417.2.2.2.1 != (wrap64 (t397 + 1)))) else (phaetonlaw16_TrustStale.j1 kj7 l3 t368 (wrap64 ((Int.tmod (wrap64 (a5)) 14) + 1)) (wrap64 ((Int.tmod (wrap64 (a2)) 14) + 1)) t398 t401 t407 t410 true))) else (phaetonlaw16_TrustStale.j1 kj7 l3 t368 (wrap64 ((Int.tmod (wrap64 (a5)) 14) + 1)) (wrap64 ((Int.tmod (wrap64 (a2)) 14) + 1)) t398 t401 t407 t410 true)))) = some r := H
        have A20 := Aside0.mk A200
        clear A200
        replace H := Option.bind_eq_some_iff.mp H
        obtain ⟨⟨t417, t418, t419, t420, t421, t424⟩, A210, H⟩ := H
        replace H : (if t414 = true then (phaetonlaw16_TrustStale.j1 kj7 l3 t368 (wrap64 ((Int.tmod (wrap64 (a5)) 14) + 1)) (wrap64 ((Int.tmod (wrap64 (a2)) 14) + 1)) t398 t401 t407 t410 false) else (if t424 = 5 then (if (t417 != t394) = true then (phaetonlaw16_TrustStale.j1 kj7 l3 t368 (wrap64 ((Int.tmod (wrap64 (a5)) 14) + 1)) (wrap64 ((Int.tmod (wrap64 (a2)) 14) + 1)) t398 t401 t407 t410 true) else (if t418 = t395 then (phaetonlaw16_TrustStale.j1 kj7 l3 t368 (wrap64 ((Int.tmod (wrap64 (a5)) 14) + 1)) (wrap64 ((Int.tmod (wrap64 (a2)) 14) + 1)) t398 t401 t407 t410 (t420 != (wrap64 (t397 + 1)))) else (phaetonlaw16_TrustStale.j1 kj7 l3 t368 (wrap64 ((Int.tmod (wrap64 (a5)) 14) + 1)) (wrap64 ((Int.tmod (wrap64 (a2)) 14) + 1)) t398 t401 t407 t410 true))) else (phaetonlaw16_TrustStale.j1 kj7 l3 t368 (wrap64 ((Int.tmod (wrap64 (a5)) 14) + 1)) (wrap64 ((Int.tmod (wrap64 (a2)) 14) + 1)) t398 t401 t407 t410 true))) = some r := H
        have A21 := Aside0.mk A210
        clear A210
        have HC22 := Aside0.mk H
        clear H
        go_upto_region 15 with (first | ((with_reducible refine gate_callee (f := 11) rfl ?_); refine goesL_ (some 64) rfl rfl Try.func11 (by kernel_rfl) rfl #[.int .i64 (wrap64 (a0)), .int .i64 (Int.tmod (wrap64 (a1)) 15), .slice A3 l3.length c3] rfl (by (try simp only [List.map_toArray, List.map_cons, List.map_nil]); first | done | rfl | (simp only [List.length_drop, List.length_take]; rfl)) ?_; (with_reducible refine (trust_Wrap.calls (wrap64 (a0)) (Int.tmod (wrap64 (a1)) 15) _ _ l3 t369 t370 _ ?side1 ?side2 A13.out).mono ?_); (case side1 => repeat (first | exact (Kd.C_below HR3.out HB.out) | (with_reducible refine Kd.C_alloc ?_ _) | (with_reducible refine Kd.C_drewN ?_ _) | (with_reducible refine Kd.C_drew ?_))); (case side2 => exact HC3.out); rintro e w23 ⟨v371, rfl, ho0, hb⟩; refine ⟨_, rfl, ?_⟩; have n0_ := Aside0.mk (Kd.R_lower ho0 (below_size (by repeat (first | (with_reducible first | exact HB.out | apply below_alloc | apply pw_below_drewN | apply below_drew1) | exact HB.out)))); have n1_ := Aside0.mk (below_step (by repeat (first | (with_reducible first | exact HB.out | apply below_alloc | apply pw_below_drewN | apply below_drew1) | exact HB.out)) hb); clear HB; have HO372 := n0_; have HB := n1_; clear n0_ n1_; (try clear hb); (try clear hb2); (try clear hk); (try clear hi); (try clear ho0)) | ((with_reducible refine gate_callee (f := 11) rfl ?_); refine goesL_ (some 75) rfl rfl Try.func11 (by kernel_rfl) rfl #[.int .i64 (wrap64 (a0)), .int .i64 (Int.tmod (wrap64 ((Int.tmod (wrap64 (a1)) 15) + (wrap64 ((Int.tmod (wrap64 (a2)) 14) + 1)))) 15), .slice A3 l3.length c3] rfl (by (try simp only [List.map_toArray, List.map_cons, List.map_nil]); first | done | rfl | (simp only [List.length_drop, List.length_take]; rfl)) ?_; (with_reducible refine (trust_Wrap.calls (wrap64 (a0)) (Int.tmod (wrap64 ((Int.tmod (wrap64 (a1)) 15) + (wrap64 ((Int.tmod (wrap64 (a2)) 14) + 1)))) 15) _ _ l3 t373 t374 _ ?side1 ?side2 A14.out).mono ?_); (case side1 => repeat (first | exact (Kd.C_below HR3.out HB.out) | (with_reducible refine Kd.C_alloc ?_ _) | (with_reducible refine Kd.C_drewN ?_ _) | (with_reducible refine Kd.C_drew ?_))); (case side2 => exact HC3.out); rintro e w24 ⟨v375, rfl, ho0, hb⟩; refine ⟨_, rfl, ?_⟩; have n0_ := Aside0.mk (Kd.R_elder' (by (with_reducible repeat (first | apply Kd.R_alloc | apply Kd.R_drewN | apply Kd.R_drew)); exact HO372.out) (Kd.R_base ho0) hb); have n1_ := Aside0.mk (Kd.R_lower (Kd.R_new' ho0 (Kd.R_lt (by (with_reducible repeat (first | apply Kd.R_alloc | apply Kd.R_drewN | apply Kd.R_drew)); exact HO372.out))) (below_size (by repeat (first | (with_reducible first | exact HB.out | apply below_alloc | apply pw_below_drewN | apply below_drew1) | exact HB.out)))); have n2_ := Aside0.mk (below_step (by repeat (first | (with_reducible first | exact HB.out | apply below_alloc | apply pw_below_drewN | apply below_drew1) | exact HB.out)) hb); clear HO372; clear HB; have HO372 := n0_; have HO376 := n1_; have HB := n2_; clear n0_ n1_ n2_; (try clear hb); (try clear hb2); (try clear hk); (try clear hi); (try clear ho0)) | ((with_reducible refine gate_callee (f := 11) rfl ?_); refine goesL_ (some 87) rfl rfl Try.func11 (by kernel_rfl) rfl #[.int .i64 (wrap64 (a0)), .int .i64 (Int.tmod (wrap64 ((wrap64 ((Int.tmod (wrap64 (a1)) 15) + (wrap64 ((Int.tmod (wrap64 (a2)) 14) + 1)))) + 1)) 15), .slice A3 l3.length c3] rfl (by (try simp only [List.map_toArray, List.map_cons, List.map_nil]); first | done | rfl | (simp only [List.length_drop, List.length_take]; rfl)) ?_; (with_reducible refine (trust_Wrap.calls (wrap64 (a0)) (Int.tmod (wrap64 ((wrap64 ((Int.tmod (wrap64 (a1)) 15) + (wrap64 ((Int.tmod (wrap64 (a2)) 14) + 1)))) + 1)) 15) _ _ l3 t377 t378 _ ?side1 ?side2 A15.out).mono ?_); (case side1 => repeat (first | exact (Kd.C_below HR3.out HB.out) | (with_reducible refine Kd.C_alloc ?_ _) | (with_reducible refine Kd.C_drewN ?_ _) | (with_reducible refine Kd.C_drew ?_))); (case side2 => exact HC3.out); rintro e w25 ⟨v379, rfl, ho0, hb⟩; refine ⟨_, rfl, ?_⟩; have n0_ := Aside0.mk (Kd.R_elder' (by (with_reducible repeat (first | apply Kd.R_alloc | apply Kd.R_drewN | apply Kd.R_drew)); exact HO372.out) (Kd.R_base ho0) hb); have n1_ := Aside0.mk (Kd.R_elder' (by (with_reducible repeat (first | apply Kd.R_alloc | apply Kd.R_drewN | apply Kd.R_drew)); exact HO376.out) (Kd.R_base ho0) hb); have n2_ := Aside0.mk (Kd.R_lower (Kd.R_new' (Kd.R_new' ho0 (Kd.R_lt (by (with_reducible repeat (first | apply Kd.R_alloc | apply Kd.R_drewN | apply Kd.R_drew)); exact HO372.out))) (Kd.R_lt (by (with_reducible repeat (first | apply Kd.R_alloc | apply Kd.R_drewN | apply Kd.R_drew)); exact HO376.out))) (below_size (by repeat (first | (with_reducible first | exact HB.out | apply below_alloc | apply pw_below_drewN | apply below_drew1) | exact HB.out)))); have n3_ := Aside0.mk (below_step (by repeat (first | (with_reducible first | exact HB.out | apply below_alloc | apply pw_below_drewN | apply below_drew1) | exact HB.out)) hb); clear HO372; clear HO376; clear HB; have HO372 := n0_; have HO376 := n1_; have HO380 := n2_; have HB := n3_; clear n0_ n1_ n2_ n3_; (try clear hb); (try clear hb2); (try clear hk); (try clear hi); (try clear ho0)) | ((with_reducible refine gate_callee (f := 16) rfl ?_); refine goesL_ (some 91) rfl rfl Try.func16 (by kernel_rfl) rfl #[] rfl (by (try simp only [List.map_toArray, List.map_cons, List.map_nil]); first | done | rfl | (simp only [List.length_drop, List.length_take]; rfl)) ?_; (with_reducible refine (trust_New.calls  t381 t382 t383 t384 _ A16.out).mono ?_); rintro e w26 ⟨rfl, hb⟩; refine ⟨_, rfl, ?_⟩; have n0_ := Aside0.mk (Kd.R_below (by (with_reducible repeat (first | apply Kd.R_alloc | apply Kd.R_drewN | apply Kd.R_drew)); exact HO372.out) hb); have n1_ := Aside0.mk (Kd.R_below (by (with_reducible repeat (first | apply Kd.R_alloc | apply Kd.R_drewN | apply Kd.R_drew)); exact HO376.out) hb); have n2_ := Aside0.mk (Kd.R_below (by (with_reducible repeat (first | apply Kd.R_alloc | apply Kd.R_drewN | apply Kd.R_drew)); exact HO380.out) hb); have n3_ := Aside0.mk (below_step (by repeat (first | (with_reducible first | exact HB.out | apply below_alloc | apply pw_below_drewN | apply below_drew1) | exact HB.out)) hb); clear HO372; clear HO376; clear HO380; clear HB; have HO372 := n0_; have HO376 := n1_; have HO380 := n2_; have HB := n3_; clear n0_ n1_ n2_ n3_; (try clear hb); (try clear hb2); (try clear hk); (try clear hi); obtain ⟨Ao27, co27, eo27⟩ := Kd.R_slice HO372.out; subst eo27) | ((with_reducible refine gate_callee (f := 19) rfl ?_); refine goesL_ (some 96) rfl rfl Try.func19 (by kernel_rfl) rfl #[.agg #[.bool t381, .int .i64 t382, .int .i64 t383, .int .i64 t384], .int .i64 (wrap64 (a0)), .slice Ao27 t369.length co27, .int .i64 (wrap64 ((Int.tmod (wrap64 (a5)) 14) + 1))] rfl (by (try simp only [List.map_toArray, List.map_cons, List.map_nil]); first | done | rfl | (simp only [List.length_drop, List.length_take]; rfl)) ?_; (with_reducible refine (trust_Check.calls t381 t382 t383 t384 (wrap64 (a0)) _ _ t369 (wrap64 ((Int.tmod (wrap64 (a5)) 14) + 1)) t385 t386 t387 t388 t389 t392 _ ?side1 ?side2 A17.out).mono ?_); (case side1 => repeat (first | exact (Kd.R_reads' HO372.out).2.2 | (with_reducible refine Kd.C_alloc ?_ _) | (with_reducible refine Kd.C_drewN ?_ _) | (with_reducible refine Kd.C_drew ?_))); (case side2 => exact (Kd.R_reads' HO372.out).2.1); rintro e w28 ⟨v390, rfl, ho0, hb⟩; refine ⟨_, rfl, ?_⟩; have n0_ := Aside0.mk (Kd.R_elder' (by (with_reducible repeat (first | apply Kd.R_alloc | apply Kd.R_drewN | apply Kd.R_drew)); exact HO372.out) (Kd.R_base ho0) hb); have n1_ := Aside0.mk (Kd.R_elder' (by (with_reducible repeat (first | apply Kd.R_alloc | apply Kd.R_drewN | apply Kd.R_drew)); exact HO376.out) (Kd.R_base ho0) hb); have n2_ := Aside0.mk (Kd.R_elder' (by (with_reducible repeat (first | apply Kd.R_alloc | apply Kd.R_drewN | apply Kd.R_drew)); exact HO380.out) (Kd.R_base ho0) hb); have n3_ := Aside0.mk (Kd.R_lower (Kd.R_new' (Kd.R_new' (Kd.R_new' ho0 (Kd.R_lt (by (with_reducible repeat (first | apply Kd.R_alloc | apply Kd.R_drewN | apply Kd.R_drew)); exact HO372.out))) (Kd.R_lt (by (with_reducible repeat (first | apply Kd.R_alloc | apply Kd.R_drewN | apply Kd.R_drew)); exact HO376.out))) (Kd.R_lt (by (with_reducible repeat (first | apply Kd.R_alloc | apply Kd.R_drewN | apply Kd.R_drew)); exact HO380.out))) (below_size (by repeat (first | (with_reducible first | exact HB.out | apply below_alloc | apply pw_below_drewN | apply below_drew1) | exact HB.out)))); have n4_ := Aside0.mk (below_step (by repeat (first | (with_reducible first | exact HB.out | apply below_alloc | apply pw_below_drewN | apply below_drew1) | exact HB.out)) hb); clear HO372; clear HO376; clear HO380; clear HB; have HO372 := n0_; have HO376 := n1_; have HO380 := n2_; have HO391 := n3_; have HB := n4_; clear n0_ n1_ n2_ n3_ n4_; (try clear hb); (try clear hb2); (try clear hk); (try clear hi); (try clear ho0)) | ((with_reducible refine gate_dst (N := 23) rfl ?_); (try (refine gate_guard (by rfl) ?_; dsimp only)); refine box_event ?hg (N := 23) ?hd (cs := #[.bool false, .int .i64 0, .int .i64 0, .int .i64 0]) (t := 24) ?hr ?_; (case hd => rfl); (case hg => rfl); (case hr => first | (go_simp; done) | (go_simp; rfl)); intro gb393 hg w29 hbox hb; have n0_ := Aside0.mk (Kd.R_below (by (with_reducible repeat (first | apply Kd.R_alloc | apply Kd.R_drewN | apply Kd.R_drew)); exact HO372.out) hb); have n1_ := Aside0.mk (Kd.R_below (by (with_reducible repeat (first | apply Kd.R_alloc | apply Kd.R_drewN | apply Kd.R_drew)); exact HO376.out) hb); have n2_ := Aside0.mk (Kd.R_below (by (with_reducible repeat (first | apply Kd.R_alloc | apply Kd.R_drewN | apply Kd.R_drew)); exact HO380.out) hb); have n3_ := Aside0.mk (Kd.R_below (by (with_reducible repeat (first | apply Kd.R_alloc | apply Kd.R_drewN | apply Kd.R_drew)); exact HO391.out) hb); have n4_ := Aside0.mk (below_step (by repeat (first | (with_reducible first | exact HB.out | apply below_alloc | apply pw_below_drewN | apply below_drew1) | exact HB.out)) hb); have n5_ := Aside0.mk (hbox); have n6_ := Aside0.mk ((by rw [hg]; exact (below_size (by repeat (first | (with_reducible first | exact HB.out | apply below_alloc | apply pw_below_drewN | apply below_drew1) | exact HB.out))) : w.heap.size ≤ gb393)); have n7_ := Aside0.mk ((by rw [hg]; exact (below_size (by repeat (first | (with_reducible first | exact HB.out | apply below_alloc | apply pw_below_drewN | apply below_drew1) | exact HB.out))) : w.heap.size ≤ gb393)); clear HO372; clear HO376; clear HO380; clear HO391; clear HB; have HO372 := n0_; have HO376 := n1_; have HO380 := n2_; have HO391 := n3_; have HB := n4_; have BK393 := n5_; have GW393 := n6_; have GE393 := n7_; clear n0_ n1_ n2_ n3_ n4_ n5_ n6_ n7_; clear hb hbox hg; have hcz30_0 : w29.cell? ⟨gb393, 0, none⟩ = some (.bool false) := (blk_cell BK393.out 0).trans rfl; have hcz30_1 : w29.cell? ⟨gb393, 1, none⟩ = some (.int .i64 0) := (blk_cell BK393.out 1).trans rfl; have hcz30_2 : w29.cell? ⟨gb393, 2, none⟩ = some (.int .i64 0) := (blk_cell BK393.out 2).trans rfl; have hcz30_3 : w29.cell? ⟨gb393, 3, none⟩ = some (.int .i64 0) := (blk_cell BK393.out 3).trans rfl; have hfz30_0 := blk_frozen BK393.out 0; have hfz30_1 := blk_frozen BK393.out 1; have hfz30_2 := blk_frozen BK393.out 2; have hfz30_3 := blk_frozen BK393.out 3; obtain ⟨Ao31, co31, eo31⟩ := Kd.R_slice HO376.out; subst eo31) | ((with_reducible refine gate_callee (f := 19) rfl ?_); refine goesL_ (some 106) rfl rfl Try.func19 (by kernel_rfl) rfl #[.agg #[.bool t385, .int .i64 t386, .int .i64 t387, .int .i64 t388], .int .i64 (wrap64 (a0)), .slice Ao31 t373.length co31, .int .i64 (wrap64 ((Int.tmod (wrap64 (a5)) 14) + 1))] rfl (by (try simp only [List.map_toArray, List.map_cons, List.map_nil]); first | done | rfl | (simp only [List.length_drop, List.length_take]; rfl)) ?_; (with_reducible refine (trust_Check.calls t385 t386 t387 t388 (wrap64 (a0)) _ _ t373 (wrap64 ((Int.tmod (wrap64 (a5)) 14) + 1)) t394 t395 t396 t397 t398 t401 _ ?side1 ?side2 A18.out).mono ?_); (case side1 => refine (Kd.R_reads' (e := 5) (base := w.heap.size) (ok := fun k_ => (((True ∧ some k_ ≠ (.slice Ao27 t369.length co27 : Value).ownBlock) ∧ some k_ ≠ (v379 : Value).ownBlock) ∧ some k_ ≠ (v390 : Value).ownBlock)) (n := t373.length) (c := co31) ?_).2.2; exact (by (with_reducible repeat (first | apply Kd.R_alloc | apply Kd.R_drewN | apply Kd.R_drew)); exact (Kd.R_mono (Kd.R_far (p := ⟨gb393, 3, none⟩) (Kd.R_far (p := ⟨gb393, 2, none⟩) (Kd.R_far (p := ⟨gb393, 1, none⟩) (Kd.R_far (p := ⟨gb393, 0, none⟩) (Kd.R_types HO376.out BK393.out (by decide)) (fun _ hk => hk.2) (.bool t385)) (fun _ hk => hk.2) (.int .i64 t386)) (fun _ hk => hk.2) (.int .i64 t387)) (fun _ hk => hk.2) (.int .i64 t388)) (fun _ h_ => h_.1)))); (case side2 => exact (Kd.R_reads' HO376.out).2.1); rintro e w32 ⟨v399, rfl, ho0, hb⟩; refine ⟨_, rfl, ?_⟩; have n0_ := Aside0.mk (Kd.R_elder' (by (with_reducible repeat (first | apply Kd.R_alloc | apply Kd.R_drewN | apply Kd.R_drew)); exact (Kd.R_mono (Kd.R_far (p := ⟨gb393, 3, none⟩) (Kd.R_far (p := ⟨gb393, 2, none⟩) (Kd.R_far (p := ⟨gb393, 1, none⟩) (Kd.R_far (p := ⟨gb393, 0, none⟩) (Kd.R_types HO372.out BK393.out (by decide)) (fun _ hk => hk.2) (.bool t385)) (fun _ hk => hk.2) (.int .i64 t386)) (fun _ hk => hk.2) (.int .i64 t387)) (fun _ hk => hk.2) (.int .i64 t388)) (fun _ h_ => h_.1))) (Kd.R_base ho0) hb); have n1_ := Aside0.mk (Kd.R_elder' (by (with_reducible repeat (first | apply Kd.R_alloc | apply Kd.R_drewN | apply Kd.R_drew)); exact (Kd.R_mono (Kd.R_far (p := ⟨gb393, 3, none⟩) (Kd.R_far (p := ⟨gb393, 2, none⟩) (Kd.R_far (p := ⟨gb393, 1, none⟩) (Kd.R_far (p := ⟨gb393, 0, none⟩) (Kd.R_types HO376.out BK393.out (by decide)) (fun _ hk => hk.2) (.bool t385)) (fun _ hk => hk.2) (.int .i64 t386)) (fun _ hk => hk.2) (.int .i64 t387)) (fun _ hk => hk.2) (.int .i64 t388)) (fun _ h_ => h_.1))) (Kd.R_base ho0) hb); have n2_ := Aside0.mk (Kd.R_elder' (by (with_reducible repeat (first | apply Kd.R_alloc | apply Kd.R_drewN | apply Kd.R_drew)); exact (Kd.R_mono (Kd.R_far (p := ⟨gb393, 3, none⟩) (Kd.R_far (p := ⟨gb393, 2, none⟩) (Kd.R_far (p := ⟨gb393, 1, none⟩) (Kd.R_far (p := ⟨gb393, 0, none⟩) (Kd.R_types HO380.out BK393.out (by decide)) (fun _ hk => hk.2) (.bool t385)) (fun _ hk => hk.2) (.int .i64 t386)) (fun _ hk => hk.2) (.int .i64 t387)) (fun _ hk => hk.2) (.int .i64 t388)) (fun _ h_ => h_.1))) (Kd.R_base ho0) hb); have n3_ := Aside0.mk (Kd.R_elder' (by (with_reducible repeat (first | apply Kd.R_alloc | apply Kd.R_drewN | apply Kd.R_drew)); exact (Kd.R_mono (Kd.R_far (p := ⟨gb393, 3, none⟩) (Kd.R_far (p := ⟨gb393, 2, none⟩) (Kd.R_far (p := ⟨gb393, 1, none⟩) (Kd.R_far (p := ⟨gb393, 0, none⟩) (Kd.R_types HO391.out BK393.out (by decide)) (fun _ hk => hk.2) (.bool t385)) (fun _ hk => hk.2) (.int .i64 t386)) (fun _ hk => hk.2) (.int .i64 t387)) (fun _ hk => hk.2) (.int .i64 t388)) (fun _ h_ => h_.1))) (Kd.R_base ho0) hb); have n4_ := Aside0.mk (Kd.R_lower (Kd.R_new' (Kd.R_new' (Kd.R_new' (Kd.R_new' ho0 (Kd.R_lt (by (with_reducible repeat (first | apply Kd.R_alloc | apply Kd.R_drewN | apply Kd.R_drew)); exact (Kd.R_mono (Kd.R_far (p := ⟨gb393, 3, none⟩) (Kd.R_far (p := ⟨gb393, 2, none⟩) (Kd.R_far (p := ⟨gb393, 1, none⟩) (Kd.R_far (p := ⟨gb393, 0, none⟩) (Kd.R_types HO372.out BK393.out (by decide)) (fun _ hk => hk.2) (.bool t385)) (fun _ hk => hk.2) (.int .i64 t386)) (fun _ hk => hk.2) (.int .i64 t387)) (fun _ hk => hk.2) (.int .i64 t388)) (fun _ h_ => h_.1))))) (Kd.R_lt (by (with_reducible repeat (first | apply Kd.R_alloc | apply Kd.R_drewN | apply Kd.R_drew)); exact (Kd.R_mono (Kd.R_far (p := ⟨gb393, 3, none⟩) (Kd.R_far (p := ⟨gb393, 2, none⟩) (Kd.R_far (p := ⟨gb393, 1, none⟩) (Kd.R_far (p := ⟨gb393, 0, none⟩) (Kd.R_types HO376.out BK393.out (by decide)) (fun _ hk => hk.2) (.bool t385)) (fun _ hk => hk.2) (.int .i64 t386)) (fun _ hk => hk.2) (.int .i64 t387)) (fun _ hk => hk.2) (.int .i64 t388)) (fun _ h_ => h_.1))))) (Kd.R_lt (by (with_reducible repeat (first | apply Kd.R_alloc | apply Kd.R_drewN | apply Kd.R_drew)); exact (Kd.R_mono (Kd.R_far (p := ⟨gb393, 3, none⟩) (Kd.R_far (p := ⟨gb393, 2, none⟩) (Kd.R_far (p := ⟨gb393, 1, none⟩) (Kd.R_far (p := ⟨gb393, 0, none⟩) (Kd.R_types HO380.out BK393.out (by decide)) (fun _ hk => hk.2) (.bool t385)) (fun _ hk => hk.2) (.int .i64 t386)) (fun _ hk => hk.2) (.int .i64 t387)) (fun _ hk => hk.2) (.int .i64 t388)) (fun _ h_ => h_.1))))) (Kd.R_lt (by (with_reducible repeat (first | apply Kd.R_alloc | apply Kd.R_drewN | apply Kd.R_drew)); exact (Kd.R_mono (Kd.R_far (p := ⟨gb393, 3, none⟩) (Kd.R_far (p := ⟨gb393, 2, none⟩) (Kd.R_far (p := ⟨gb393, 1, none⟩) (Kd.R_far (p := ⟨gb393, 0, none⟩) (Kd.R_types HO391.out BK393.out (by decide)) (fun _ hk => hk.2) (.bool t385)) (fun _ hk => hk.2) (.int .i64 t386)) (fun _ hk => hk.2) (.int .i64 t387)) (fun _ hk => hk.2) (.int .i64 t388)) (fun _ h_ => h_.1))))) (below_size (by repeat (first | (with_reducible first | exact HB.out | apply below_alloc | apply pw_below_drewN | apply below_drew1 | refine below_set ?_ GE393.out) | exact HB.out)))); have n5_ := Aside0.mk (blk_below (g := gb393) (o := .cells #[.bool t385, .int .i64 t386, .int .i64 t387, .int .i64 t388] 24 (0, 0)) (by (with_reducible repeat (first | refine blk_drewN ?_ _ | refine blk_drew ?_ | refine blk_alloc ?_ _)); refine blk_put (cs := #[.bool t385, .int .i64 t386, .int .i64 t387, .int .i64 0]) ?_ 3 _ rfl; (with_reducible repeat (first | refine blk_drewN ?_ _ | refine blk_drew ?_ | refine blk_alloc ?_ _)); refine blk_put (cs := #[.bool t385, .int .i64 t386, .int .i64 0, .int .i64 0]) ?_ 2 _ rfl; (with_reducible repeat (first | refine blk_drewN ?_ _ | refine blk_drew ?_ | refine blk_alloc ?_ _)); refine blk_put (cs := #[.bool t385, .int .i64 0, .int .i64 0, .int .i64 0]) ?_ 1 _ rfl; (with_reducible repeat (first | refine blk_drewN ?_ _ | refine blk_drew ?_ | refine blk_alloc ?_ _)); refine blk_put (cs := #[.bool false, .int .i64 0, .int .i64 0, .int .i64 0]) ?_ 0 _ rfl; (with_reducible repeat (first | refine blk_drewN ?_ _ | refine blk_drew ?_ | refine blk_alloc ?_ _)); exact BK393.out) hb); have n6_ := Aside0.mk (below_step (by repeat (first | (with_reducible first | exact HB.out | apply below_alloc | apply pw_below_drewN | apply below_drew1 | refine below_set ?_ GE393.out) | exact HB.out)) hb); clear HO372; clear HO376; clear HO380; clear HO391; clear BK393; clear HB; have HO372 := n0_; have HO376 := n1_; have HO380 := n2_; have HO391 := n3_; have HO400 := n4_; have BK393 := n5_; have HB := n6_; clear n0_ n1_ n2_ n3_ n4_ n5_ n6_; (try clear hb); (try clear hb2); (try clear hk); (try clear hi); (try clear ho0)) | ((with_reducible refine gate_dst (N := 26) rfl ?_); (try (refine gate_guard (by rfl) ?_; dsimp only)); refine box_event ?hg (N := 26) ?hd (cs := #[.bool false, .int .i64 0, .int .i64 0, .int .i64 0]) (t := 24) ?hr ?_; (case hd => rfl); (case hg => rfl); (case hr => first | (go_simp; done) | (go_simp; rfl)); intro gb402 hg w33 hbox hb; have n0_ := Aside0.mk (Kd.R_below (by (with_reducible repeat (first | apply Kd.R_alloc | apply Kd.R_drewN | apply Kd.R_drew)); exact HO372.out) hb); have n1_ := Aside0.mk (Kd.R_below (by (with_reducible repeat (first | apply Kd.R_alloc | apply Kd.R_drewN | apply Kd.R_drew)); exact HO376.out) hb); have n2_ := Aside0.mk (Kd.R_below (by (with_reducible repeat (first | apply Kd.R_alloc | apply Kd.R_drewN | apply Kd.R_drew)); exact HO380.out) hb); have n3_ := Aside0.mk (Kd.R_below (by (with_reducible repeat (first | apply Kd.R_alloc | apply Kd.R_drewN | apply Kd.R_drew)); exact HO391.out) hb); have n4_ := Aside0.mk (Kd.R_below (by (with_reducible repeat (first | apply Kd.R_alloc | apply Kd.R_drewN | apply Kd.R_drew)); exact HO400.out) hb); have n5_ := Aside0.mk (blk_below (g := gb393) (o := .cells #[.bool t385, .int .i64 t386, .int .i64 t387, .int .i64 t388] 24 (0, 0)) (by (with_reducible repeat (first | refine blk_drewN ?_ _ | refine blk_drew ?_ | refine blk_alloc ?_ _)); exact BK393.out) hb); have n6_ := Aside0.mk (below_step (by repeat (first | (with_reducible first | exact HB.out | apply below_alloc | apply pw_below_drewN | apply below_drew1 | refine below_set ?_ GE393.out) | exact HB.out)) hb); have n7_ := Aside0.mk (hbox); have n8_ := Aside0.mk ((by rw [hg]; exact (below_size (by repeat (first | (with_reducible first | exact HB.out | apply below_alloc | apply pw_below_drewN | apply below_drew1 | refine below_set ?_ GE393.out) | exact HB.out))) : w.heap.size ≤ gb402)); have n9_ := Aside0.mk ((by rw [hg]; exact (below_size (by repeat (first | (with_reducible first | exact HB.out | apply below_alloc | apply pw_below_drewN | apply below_drew1 | refine below_set ?_ GE393.out) | exact HB.out))) : w.heap.size ≤ gb402)); have n10_ := Aside0.mk ((by rw [hg]; exact Nat.ne_of_lt (blk_lt (g := gb393) (o := .cells #[.bool t385, .int .i64 t386, .int .i64 t387, .int .i64 t388] 24 (0, 0)) (by (with_reducible repeat (first | refine blk_drewN ?_ _ | refine blk_drew ?_ | refine blk_alloc ?_ _)); exact BK393.out)) : gb393 ≠ gb402)); have n11_ := Aside0.mk ((by rw [hg]; exact Nat.ne_of_gt (blk_lt (g := gb393) (o := .cells #[.bool t385, .int .i64 t386, .int .i64 t387, .int .i64 t388] 24 (0, 0)) (by (with_reducible repeat (first | refine blk_drewN ?_ _ | refine blk_drew ?_ | refine blk_alloc ?_ _)); exact BK393.out)) : gb402 ≠ gb393)); clear HO372; clear HO376; clear HO380; clear HO391; clear HO400; clear BK393; clear HB; have HO372 := n0_; have HO376 := n1_; have HO380 := n2_; have HO391 := n3_; have HO400 := n4_; have BK393 := n5_; have HB := n6_; have BK402 := n7_; have GW402 := n8_; have GE402 := n9_; have NB393_402 := n10_; have NB402_393 := n11_; clear n0_ n1_ n2_ n3_ n4_ n5_ n6_ n7_ n8_ n9_ n10_ n11_; clear hb hbox hg; have hnb34 := NB402_393.out; have hnc34 := NB393_402.out; have hcz35_0 : w33.cell? ⟨gb402, 0, none⟩ = some (.bool false) := (blk_cell BK402.out 0).trans rfl; have hcz35_1 : w33.cell? ⟨gb402, 1, none⟩ = some (.int .i64 0) := (blk_cell BK402.out 1).trans rfl; have hcz35_2 : w33.cell? ⟨gb402, 2, none⟩ = some (.int .i64 0) := (blk_cell BK402.out 2).trans rfl; have hcz35_3 : w33.cell? ⟨gb402, 3, none⟩ = some (.int .i64 0) := (blk_cell BK402.out 3).trans rfl; have hfz35_0 := blk_frozen BK402.out 0; have hfz35_1 := blk_frozen BK402.out 1; have hfz35_2 := blk_frozen BK402.out 2; have hfz35_3 := blk_frozen BK402.out 3; obtain ⟨Ao36, co36, eo36⟩ := Kd.R_slice HO380.out; subst eo36) | ((with_reducible refine gate_callee (f := 19) rfl ?_); refine goesL_ (some 116) rfl rfl Try.func19 (by kernel_rfl) rfl #[.agg #[.bool t394, .int .i64 t395, .int .i64 t396, .int .i64 t397], .int .i64 (wrap64 (a0)), .slice Ao36 t377.length co36, .int .i64 (wrap64 ((Int.tmod (wrap64 (a5)) 14) + 1))] rfl (by (try simp only [List.map_toArray, List.map_cons, List.map_nil]); first | done | rfl | (simp only [List.length_drop, List.length_take]; rfl)) ?_; (with_reducible refine (trust_Check.calls t394 t395 t396 t397 (wrap64 (a0)) _ _ t377 (wrap64 ((Int.tmod (wrap64 (a5)) 14) + 1)) t403 t404 t405 t406 t407 t410 _ ?side1 ?side2 A19.out).mono ?_); (case side1 => refine (Kd.R_reads' (e := 5) (base := w.heap.size) (ok := fun k_ => ((((True ∧ some k_ ≠ (.slice Ao27 t369.length co27 : Value).ownBlock) ∧ some k_ ≠ (.slice Ao31 t373.length co31 : Value).ownBlock) ∧ some k_ ≠ (v390 : Value).ownBlock) ∧ some k_ ≠ (v399 : Value).ownBlock)) (n := t377.length) (c := co36) ?_).2.2; exact (by (with_reducible repeat (first | apply Kd.R_alloc | apply Kd.R_drewN | apply Kd.R_drew)); exact (Kd.R_mono (Kd.R_far (p := ⟨gb402, 3, none⟩) (Kd.R_far (p := ⟨gb402, 2, none⟩) (Kd.R_far (p := ⟨gb402, 1, none⟩) (Kd.R_far (p := ⟨gb402, 0, none⟩) (Kd.R_types HO380.out BK402.out (by decide)) (fun _ hk => hk.2) (.bool t394)) (fun _ hk => hk.2) (.int .i64 t395)) (fun _ hk => hk.2) (.int .i64 t396)) (fun _ hk => hk.2) (.int .i64 t397)) (fun _ h_ => h_.1)))); (case side2 => exact (Kd.R_reads' HO380.out).2.1); rintro e w37 ⟨v408, rfl, ho0, hb⟩; refine ⟨_, rfl, ?_⟩; have n0_ := Aside0.mk (Kd.R_elder' (by (with_reducible repeat (first | apply Kd.R_alloc | apply Kd.R_drewN | apply Kd.R_drew)); exact (Kd.R_mono (Kd.R_far (p := ⟨gb402, 3, none⟩) (Kd.R_far (p := ⟨gb402, 2, none⟩) (Kd.R_far (p := ⟨gb402, 1, none⟩) (Kd.R_far (p := ⟨gb402, 0, none⟩) (Kd.R_types HO372.out BK402.out (by decide)) (fun _ hk => hk.2) (.bool t394)) (fun _ hk => hk.2) (.int .i64 t395)) (fun _ hk => hk.2) (.int .i64 t396)) (fun _ hk => hk.2) (.int .i64 t397)) (fun _ h_ => h_.1))) (Kd.R_base ho0) hb); have n1_ := Aside0.mk (Kd.R_elder' (by (with_reducible repeat (first | apply Kd.R_alloc | apply Kd.R_drewN | apply Kd.R_drew)); exact (Kd.R_mono (Kd.R_far (p := ⟨gb402, 3, none⟩) (Kd.R_far (p := ⟨gb402, 2, none⟩) (Kd.R_far (p := ⟨gb402, 1, none⟩) (Kd.R_far (p := ⟨gb402, 0, none⟩) (Kd.R_types HO376.out BK402.out (by decide)) (fun _ hk => hk.2) (.bool t394)) (fun _ hk => hk.2) (.int .i64 t395)) (fun _ hk => hk.2) (.int .i64 t396)) (fun _ hk => hk.2) (.int .i64 t397)) (fun _ h_ => h_.1))) (Kd.R_base ho0) hb); have n2_ := Aside0.mk (Kd.R_elder' (by (with_reducible repeat (first | apply Kd.R_alloc | apply Kd.R_drewN | apply Kd.R_drew)); exact (Kd.R_mono (Kd.R_far (p := ⟨gb402, 3, none⟩) (Kd.R_far (p := ⟨gb402, 2, none⟩) (Kd.R_far (p := ⟨gb402, 1, none⟩) (Kd.R_far (p := ⟨gb402, 0, none⟩) (Kd.R_types HO380.out BK402.out (by decide)) (fun _ hk => hk.2) (.bool t394)) (fun _ hk => hk.2) (.int .i64 t395)) (fun _ hk => hk.2) (.int .i64 t396)) (fun _ hk => hk.2) (.int .i64 t397)) (fun _ h_ => h_.1))) (Kd.R_base ho0) hb); have n3_ := Aside0.mk (Kd.R_elder' (by (with_reducible repeat (first | apply Kd.R_alloc | apply Kd.R_drewN | apply Kd.R_drew)); exact (Kd.R_mono (Kd.R_far (p := ⟨gb402, 3, none⟩) (Kd.R_far (p := ⟨gb402, 2, none⟩) (Kd.R_far (p := ⟨gb402, 1, none⟩) (Kd.R_far (p := ⟨gb402, 0, none⟩) (Kd.R_types HO391.out BK402.out (by decide)) (fun _ hk => hk.2) (.bool t394)) (fun _ hk => hk.2) (.int .i64 t395)) (fun _ hk => hk.2) (.int .i64 t396)) (fun _ hk => hk.2) (.int .i64 t397)) (fun _ h_ => h_.1))) (Kd.R_base ho0) hb); have n4_ := Aside0.mk (Kd.R_elder' (by (with_reducible repeat (first | apply Kd.R_alloc | apply Kd.R_drewN | apply Kd.R_drew)); exact (Kd.R_mono (Kd.R_far (p := ⟨gb402, 3, none⟩) (Kd.R_far (p := ⟨gb402, 2, none⟩) (Kd.R_far (p := ⟨gb402, 1, none⟩) (Kd.R_far (p := ⟨gb402, 0, none⟩) (Kd.R_types HO400.out BK402.out (by decide)) (fun _ hk => hk.2) (.bool t394)) (fun _ hk => hk.2) (.int .i64 t395)) (fun _ hk => hk.2) (.int .i64 t396)) (fun _ hk => hk.2) (.int .i64 t397)) (fun _ h_ => h_.1))) (Kd.R_base ho0) hb); have n5_ := Aside0.mk (Kd.R_lower (Kd.R_new' (Kd.R_new' (Kd.R_new' (Kd.R_new' (Kd.R_new' ho0 (Kd.R_lt (by (with_reducible repeat (first | apply Kd.R_alloc | apply Kd.R_drewN | apply Kd.R_drew)); exact (Kd.R_mono (Kd.R_far (p := ⟨gb402, 3, none⟩) (Kd.R_far (p := ⟨gb402, 2, none⟩) (Kd.R_far (p := ⟨gb402, 1, none⟩) (Kd.R_far (p := ⟨gb402, 0, none⟩) (Kd.R_types HO372.out BK402.out (by decide)) (fun _ hk => hk.2) (.bool t394)) (fun _ hk => hk.2) (.int .i64 t395)) (fun _ hk => hk.2) (.int .i64 t396)) (fun _ hk => hk.2) (.int .i64 t397)) (fun _ h_ => h_.1))))) (Kd.R_lt (by (with_reducible repeat (first | apply Kd.R_alloc | apply Kd.R_drewN | apply Kd.R_drew)); exact (Kd.R_mono (Kd.R_far (p := ⟨gb402, 3, none⟩) (Kd.R_far (p := ⟨gb402, 2, none⟩) (Kd.R_far (p := ⟨gb402, 1, none⟩) (Kd.R_far (p := ⟨gb402, 0, none⟩) (Kd.R_types HO376.out BK402.out (by decide)) (fun _ hk => hk.2) (.bool t394)) (fun _ hk => hk.2) (.int .i64 t395)) (fun _ hk => hk.2) (.int .i64 t396)) (fun _ hk => hk.2) (.int .i64 t397)) (fun _ h_ => h_.1))))) (Kd.R_lt (by (with_reducible repeat (first | apply Kd.R_alloc | apply Kd.R_drewN | apply Kd.R_drew)); exact (Kd.R_mono (Kd.R_far (p := ⟨gb402, 3, none⟩) (Kd.R_far (p := ⟨gb402, 2, none⟩) (Kd.R_far (p := ⟨gb402, 1, none⟩) (Kd.R_far (p := ⟨gb402, 0, none⟩) (Kd.R_types HO380.out BK402.out (by decide)) (fun _ hk => hk.2) (.bool t394)) (fun _ hk => hk.2) (.int .i64 t395)) (fun _ hk => hk.2) (.int .i64 t396)) (fun _ hk => hk.2) (.int .i64 t397)) (fun _ h_ => h_.1))))) (Kd.R_lt (by (with_reducible repeat (first | apply Kd.R_alloc | apply Kd.R_drewN | apply Kd.R_drew)); exact (Kd.R_mono (Kd.R_far (p := ⟨gb402, 3, none⟩) (Kd.R_far (p := ⟨gb402, 2, none⟩) (Kd.R_far (p := ⟨gb402, 1, none⟩) (Kd.R_far (p := ⟨gb402, 0, none⟩) (Kd.R_types HO391.out BK402.out (by decide)) (fun _ hk => hk.2) (.bool t394)) (fun _ hk => hk.2) (.int .i64 t395)) (fun _ hk => hk.2) (.int .i64 t396)) (fun _ hk => hk.2) (.int .i64 t397)) (fun _ h_ => h_.1))))) (Kd.R_lt (by (with_reducible repeat (first | apply Kd.R_alloc | apply Kd.R_drewN | apply Kd.R_drew)); exact (Kd.R_mono (Kd.R_far (p := ⟨gb402, 3, none⟩) (Kd.R_far (p := ⟨gb402, 2, none⟩) (Kd.R_far (p := ⟨gb402, 1, none⟩) (Kd.R_far (p := ⟨gb402, 0, none⟩) (Kd.R_types HO400.out BK402.out (by decide)) (fun _ hk => hk.2) (.bool t394)) (fun _ hk => hk.2) (.int .i64 t395)) (fun _ hk => hk.2) (.int .i64 t396)) (fun _ hk => hk.2) (.int .i64 t397)) (fun _ h_ => h_.1))))) (below_size (by repeat (first | (with_reducible first | exact HB.out | apply below_alloc | apply pw_below_drewN | apply below_drew1 | refine below_set ?_ GE393.out | refine below_set ?_ GE402.out) | exact HB.out)))); have n6_ := Aside0.mk (blk_below (g := gb393) (o := .cells #[.bool t385, .int .i64 t386, .int .i64 t387, .int .i64 t388] 24 (0, 0)) (by (with_reducible repeat (first | refine blk_drewN ?_ _ | refine blk_drew ?_ | refine blk_alloc ?_ _)); refine blk_far ?_ NB393_402.out _; (with_reducible repeat (first | refine blk_drewN ?_ _ | refine blk_drew ?_ | refine blk_alloc ?_ _)); refine blk_far ?_ NB393_402.out _; (with_reducible repeat (first | refine blk_drewN ?_ _ | refine blk_drew ?_ | refine blk_alloc ?_ _)); refine blk_far ?_ NB393_402.out _; (with_reducible repeat (first | refine blk_drewN ?_ _ | refine blk_drew ?_ | refine blk_alloc ?_ _)); refine blk_far ?_ NB393_402.out _; (with_reducible repeat (first | refine blk_drewN ?_ _ | refine blk_drew ?_ | refine blk_alloc ?_ _)); exact BK393.out) hb); have n7_ := Aside0.mk (blk_below (g := gb402) (o := .cells #[.bool t394, .int .i64 t395, .int .i64 t396, .int .i64 t397] 24 (0, 0)) (by (with_reducible repeat (first | refine blk_drewN ?_ _ | refine blk_drew ?_ | refine blk_alloc ?_ _)); refine blk_put (cs := #[.bool t394, .int .i64 t395, .int .i64 t396, .int .i64 0]) ?_ 3 _ rfl; (with_reducible repeat (first | refine blk_drewN ?_ _ | refine blk_drew ?_ | refine blk_alloc ?_ _)); refine blk_put (cs := #[.bool t394, .int .i64 t395, .int .i64 0, .int .i64 0]) ?_ 2 _ rfl; (with_reducible repeat (first | refine blk_drewN ?_ _ | refine blk_drew ?_ | refine blk_alloc ?_ _)); refine blk_put (cs := #[.bool t394, .int .i64 0, .int .i64 0, .int .i64 0]) ?_ 1 _ rfl; (with_reducible repeat (first | refine blk_drewN ?_ _ | refine blk_drew ?_ | refine blk_alloc ?_ _)); refine blk_put (cs := #[.bool false, .int .i64 0, .int .i64 0, .int .i64 0]) ?_ 0 _ rfl; (with_reducible repeat (first | refine blk_drewN ?_ _ | refine blk_drew ?_ | refine blk_alloc ?_ _)); exact BK402.out) hb); have n8_ := Aside0.mk (below_step (by repeat (first | (with_reducible first | exact HB.out | apply below_alloc | apply pw_below_drewN | apply below_drew1 | refine below_set ?_ GE393.out | refine below_set ?_ GE402.out) | exact HB.out)) hb); clear HO372; clear HO376; clear HO380; clear HO391; clear HO400; clear BK393; clear BK402; clear HB; have HO372 := n0_; have HO376 := n1_; have HO380 := n2_; have HO391 := n3_; have HO400 := n4_; have HO409 := n5_; have BK393 := n6_; have BK402 := n7_; have HB := n8_; clear n0_ n1_ n2_ n3_ n4_ n5_ n6_ n7_ n8_; (try clear hb); (try clear hb2); (try clear hk); (try clear hi); (try clear ho0)) | ((with_reducible refine gate_dst (N := 29) rfl ?_); (try (refine gate_guard (by rfl) ?_; dsimp only)); refine box_event ?hg (N := 29) ?hd (cs := #[.bool false, .int .i64 0, .int .i64 0, .int .i64 0]) (t := 24) ?hr ?_; (case hd => rfl); (case hg => rfl); (case hr => first | (go_simp; done) | (go_simp; rfl)); intro gb411 hg w38 hbox hb; have n0_ := Aside0.mk (Kd.R_below (by (with_reducible repeat (first | apply Kd.R_alloc | apply Kd.R_drewN | apply Kd.R_drew)); exact HO372.out) hb); have n1_ := Aside0.mk (Kd.R_below (by (with_reducible repeat (first | apply Kd.R_alloc | apply Kd.R_drewN | apply Kd.R_drew)); exact HO376.out) hb); have n2_ := Aside0.mk (Kd.R_below (by (with_reducible repeat (first | apply Kd.R_alloc | apply Kd.R_drewN | apply Kd.R_drew)); exact HO380.out) hb); have n3_ := Aside0.mk (Kd.R_below (by (with_reducible repeat (first | apply Kd.R_alloc | apply Kd.R_drewN | apply Kd.R_drew)); exact HO391.out) hb); have n4_ := Aside0.mk (Kd.R_below (by (with_reducible repeat (first | apply Kd.R_alloc | apply Kd.R_drewN | apply Kd.R_drew)); exact HO400.out) hb); have n5_ := Aside0.mk (Kd.R_below (by (with_reducible repeat (first | apply Kd.R_alloc | apply Kd.R_drewN | apply Kd.R_drew)); exact HO409.out) hb); have n6_ := Aside0.mk (blk_below (g := gb393) (o := .cells #[.bool t385, .int .i64 t386, .int .i64 t387, .int .i64 t388] 24 (0, 0)) (by (with_reducible repeat (first | refine blk_drewN ?_ _ | refine blk_drew ?_ | refine blk_alloc ?_ _)); exact BK393.out) hb); have n7_ := Aside0.mk (blk_below (g := gb402) (o := .cells #[.bool t394, .int .i64 t395, .int .i64 t396, .int .i64 t397] 24 (0, 0)) (by (with_reducible repeat (first | refine blk_drewN ?_ _ | refine blk_drew ?_ | refine blk_alloc ?_ _)); exact BK402.out) hb); have n8_ := Aside0.mk (below_step (by repeat (first | (with_reducible first | exact HB.out | apply below_alloc | apply pw_below_drewN | apply below_drew1 | refine below_set ?_ GE393.out | refine below_set ?_ GE402.out) | exact HB.out)) hb); have n9_ := Aside0.mk (hbox); have n10_ := Aside0.mk ((by rw [hg]; exact (below_size (by repeat (first | (with_reducible first | exact HB.out | apply below_alloc | apply pw_below_drewN | apply below_drew1 | refine below_set ?_ GE393.out | refine below_set ?_ GE402.out) | exact HB.out))) : w.heap.size ≤ gb411)); have n11_ := Aside0.mk ((by rw [hg]; exact (below_size (by repeat (first | (with_reducible first | exact HB.out | apply below_alloc | apply pw_below_drewN | apply below_drew1 | refine below_set ?_ GE393.out | refine below_set ?_ GE402.out) | exact HB.out))) : w.heap.size ≤ gb411)); have n12_ := Aside0.mk ((by rw [hg]; exact Nat.ne_of_lt (blk_lt (g := gb393) (o := .cells #[.bool t385, .int .i64 t386, .int .i64 t387, .int .i64 t388] 24 (0, 0)) (by (with_reducible repeat (first | refine blk_drewN ?_ _ | refine blk_drew ?_ | refine blk_alloc ?_ _)); exact BK393.out)) : gb393 ≠ gb411)); have n13_ := Aside0.mk ((by rw [hg]; exact Nat.ne_of_gt (blk_lt (g := gb393) (o := .cells #[.bool t385, .int .i64 t386, .int .i64 t387, .int .i64 t388] 24 (0, 0)) (by (with_reducible repeat (first | refine blk_drewN ?_ _ | refine blk_drew ?_ | refine blk_alloc ?_ _)); exact BK393.out)) : gb411 ≠ gb393)); have n14_ := Aside0.mk ((by rw [hg]; exact Nat.ne_of_lt (blk_lt (g := gb402) (o := .cells #[.bool t394, .int .i64 t395, .int .i64 t396, .int .i64 t397] 24 (0, 0)) (by (with_reducible repeat (first | refine blk_drewN ?_ _ | refine blk_drew ?_ | refine blk_alloc ?_ _)); exact BK402.out)) : gb402 ≠ gb411)); have n15_ := Aside0.mk ((by rw [hg]; exact Nat.ne_of_gt (blk_lt (g := gb402) (o := .cells #[.bool t394, .int .i64 t395, .int .i64 t396, .int .i64 t397] 24 (0, 0)) (by (with_reducible repeat (first | refine blk_drewN ?_ _ | refine blk_drew ?_ | refine blk_alloc ?_ _)); exact BK402.out)) : gb411 ≠ gb402)); clear HO372; clear HO376; clear HO380; clear HO391; clear HO400; clear HO409; clear BK393; clear BK402; clear HB; have HO372 := n0_; have HO376 := n1_; have HO380 := n2_; have HO391 := n3_; have HO400 := n4_; have HO409 := n5_; have BK393 := n6_; have BK402 := n7_; have HB := n8_; have BK411 := n9_; have GW411 := n10_; have GE411 := n11_; have NB393_411 := n12_; have NB411_393 := n13_; have NB402_411 := n14_; have NB411_402 := n15_; clear n0_ n1_ n2_ n3_ n4_ n5_ n6_ n7_ n8_ n9_ n10_ n11_ n12_ n13_ n14_ n15_; clear hb hbox hg; have hnb39 := NB411_393.out; have hnc39 := NB393_411.out; have hnb40 := NB411_402.out; have hnc40 := NB402_411.out; have hcz41_0 : w38.cell? ⟨gb411, 0, none⟩ = some (.bool false) := (blk_cell BK411.out 0).trans rfl; have hcz41_1 : w38.cell? ⟨gb411, 1, none⟩ = some (.int .i64 0) := (blk_cell BK411.out 1).trans rfl; have hcz41_2 : w38.cell? ⟨gb411, 2, none⟩ = some (.int .i64 0) := (blk_cell BK411.out 2).trans rfl; have hcz41_3 : w38.cell? ⟨gb411, 3, none⟩ = some (.int .i64 0) := (blk_cell BK411.out 3).trans rfl; have hfz41_0 := blk_frozen BK411.out 0; have hfz41_1 := blk_frozen BK411.out 1; have hfz41_2 := blk_frozen BK411.out 2; have hfz41_3 := blk_frozen BK411.out 3) | ((with_reducible refine gate_callee (f := 13) rfl ?_); refine goesL_ (some 124) rfl rfl Try.func13 (by kernel_rfl) rfl #[.int .i64 (wrap64 (a0)), .slice A4 l4.length c4] rfl (by (try simp only [List.map_toArray, List.map_cons, List.map_nil]); first | done | rfl | (simp only [List.length_drop, List.length_take]; rfl)) ?_; (with_reducible refine (trust_Open.calls (wrap64 (a0)) _ _ l4 t412 t413 t414 _ ?side1 ?side2 A20.out).mono ?_); (case side1 => exact Kd.C_below HR4.out (by repeat (first | (with_reducible first | exact HB.out | apply below_alloc | apply pw_below_drewN | apply below_drew1 | refine below_set ?_ GE393.out | refine below_set ?_ GE402.out | refine below_set ?_ GE411.out) | exact HB.out))); (case side2 => exact HC4.out); rintro e w42 ⟨v415, rfl, ho0, hb⟩; refine ⟨_, rfl, ?_⟩; have n0_ := Aside0.mk (Kd.R_elder' (by (with_reducible repeat (first | apply Kd.R_alloc | apply Kd.R_drewN | apply Kd.R_drew)); exact (Kd.R_mono (Kd.R_far (p := ⟨gb411, 3, none⟩) (Kd.R_far (p := ⟨gb411, 2, none⟩) (Kd.R_far (p := ⟨gb411, 1, none⟩) (Kd.R_far (p := ⟨gb411, 0, none⟩) (Kd.R_types HO372.out BK411.out (by decide)) (fun _ hk => hk.2) (.bool t403)) (fun _ hk => hk.2) (.int .i64 t404)) (fun _ hk => hk.2) (.int .i64 t405)) (fun _ hk => hk.2) (.int .i64 t406)) (fun _ h_ => h_.1))) (Kd.R_base ho0) hb); have n1_ := Aside0.mk (Kd.R_elder' (by (with_reducible repeat (first | apply Kd.R_alloc | apply Kd.R_drewN | apply Kd.R_drew)); exact (Kd.R_mono (Kd.R_far (p := ⟨gb411, 3, none⟩) (Kd.R_far (p := ⟨gb411, 2, none⟩) (Kd.R_far (p := ⟨gb411, 1, none⟩) (Kd.R_far (p := ⟨gb411, 0, none⟩) (Kd.R_types HO376.out BK411.out (by decide)) (fun _ hk => hk.2) (.bool t403)) (fun _ hk => hk.2) (.int .i64 t404)) (fun _ hk => hk.2) (.int .i64 t405)) (fun _ hk => hk.2) (.int .i64 t406)) (fun _ h_ => h_.1))) (Kd.R_base ho0) hb); have n2_ := Aside0.mk (Kd.R_elder' (by (with_reducible repeat (first | apply Kd.R_alloc | apply Kd.R_drewN | apply Kd.R_drew)); exact (Kd.R_mono (Kd.R_far (p := ⟨gb411, 3, none⟩) (Kd.R_far (p := ⟨gb411, 2, none⟩) (Kd.R_far (p := ⟨gb411, 1, none⟩) (Kd.R_far (p := ⟨gb411, 0, none⟩) (Kd.R_types HO380.out BK411.out (by decide)) (fun _ hk => hk.2) (.bool t403)) (fun _ hk => hk.2) (.int .i64 t404)) (fun _ hk => hk.2) (.int .i64 t405)) (fun _ hk => hk.2) (.int .i64 t406)) (fun _ h_ => h_.1))) (Kd.R_base ho0) hb); have n3_ := Aside0.mk (Kd.R_elder' (by (with_reducible repeat (first | apply Kd.R_alloc | apply Kd.R_drewN | apply Kd.R_drew)); exact (Kd.R_mono (Kd.R_far (p := ⟨gb411, 3, none⟩) (Kd.R_far (p := ⟨gb411, 2, none⟩) (Kd.R_far (p := ⟨gb411, 1, none⟩) (Kd.R_far (p := ⟨gb411, 0, none⟩) (Kd.R_types HO391.out BK411.out (by decide)) (fun _ hk => hk.2) (.bool t403)) (fun _ hk => hk.2) (.int .i64 t404)) (fun _ hk => hk.2) (.int .i64 t405)) (fun _ hk => hk.2) (.int .i64 t406)) (fun _ h_ => h_.1))) (Kd.R_base ho0) hb); have n4_ := Aside0.mk (Kd.R_elder' (by (with_reducible repeat (first | apply Kd.R_alloc | apply Kd.R_drewN | apply Kd.R_drew)); exact (Kd.R_mono (Kd.R_far (p := ⟨gb411, 3, none⟩) (Kd.R_far (p := ⟨gb411, 2, none⟩) (Kd.R_far (p := ⟨gb411, 1, none⟩) (Kd.R_far (p := ⟨gb411, 0, none⟩) (Kd.R_types HO400.out BK411.out (by decide)) (fun _ hk => hk.2) (.bool t403)) (fun _ hk => hk.2) (.int .i64 t404)) (fun _ hk => hk.2) (.int .i64 t405)) (fun _ hk => hk.2) (.int .i64 t406)) (fun _ h_ => h_.1))) (Kd.R_base ho0) hb); have n5_ := Aside0.mk (Kd.R_elder' (by (with_reducible repeat (first | apply Kd.R_alloc | apply Kd.R_drewN | apply Kd.R_drew)); exact (Kd.R_mono (Kd.R_far (p := ⟨gb411, 3, none⟩) (Kd.R_far (p := ⟨gb411, 2, none⟩) (Kd.R_far (p := ⟨gb411, 1, none⟩) (Kd.R_far (p := ⟨gb411, 0, none⟩) (Kd.R_types HO409.out BK411.out (by decide)) (fun _ hk => hk.2) (.bool t403)) (fun _ hk => hk.2) (.int .i64 t404)) (fun _ hk => hk.2) (.int .i64 t405)) (fun _ hk => hk.2) (.int .i64 t406)) (fun _ h_ => h_.1))) (Kd.R_base ho0) hb); have n6_ := Aside0.mk (Kd.R_lower (Kd.R_new' (Kd.R_new' (Kd.R_new' (Kd.R_new' (Kd.R_new' (Kd.R_new' ho0 (Kd.R_lt (by (with_reducible repeat (first | apply Kd.R_alloc | apply Kd.R_drewN | apply Kd.R_drew)); exact (Kd.R_mono (Kd.R_far (p := ⟨gb411, 3, none⟩) (Kd.R_far (p := ⟨gb411, 2, none⟩) (Kd.R_far (p := ⟨gb411, 1, none⟩) (Kd.R_far (p := ⟨gb411, 0, none⟩) (Kd.R_types HO372.out BK411.out (by decide)) (fun _ hk => hk.2) (.bool t403)) (fun _ hk => hk.2) (.int .i64 t404)) (fun _ hk => hk.2) (.int .i64 t405)) (fun _ hk => hk.2) (.int .i64 t406)) (fun _ h_ => h_.1))))) (Kd.R_lt (by (with_reducible repeat (first | apply Kd.R_alloc | apply Kd.R_drewN | apply Kd.R_drew)); exact (Kd.R_mono (Kd.R_far (p := ⟨gb411, 3, none⟩) (Kd.R_far (p := ⟨gb411, 2, none⟩) (Kd.R_far (p := ⟨gb411, 1, none⟩) (Kd.R_far (p := ⟨gb411, 0, none⟩) (Kd.R_types HO376.out BK411.out (by decide)) (fun _ hk => hk.2) (.bool t403)) (fun _ hk => hk.2) (.int .i64 t404)) (fun _ hk => hk.2) (.int .i64 t405)) (fun _ hk => hk.2) (.int .i64 t406)) (fun _ h_ => h_.1))))) (Kd.R_lt (by (with_reducible repeat (first | apply Kd.R_alloc | apply Kd.R_drewN | apply Kd.R_drew)); exact (Kd.R_mono (Kd.R_far (p := ⟨gb411, 3, none⟩) (Kd.R_far (p := ⟨gb411, 2, none⟩) (Kd.R_far (p := ⟨gb411, 1, none⟩) (Kd.R_far (p := ⟨gb411, 0, none⟩) (Kd.R_types HO380.out BK411.out (by decide)) (fun _ hk => hk.2) (.bool t403)) (fun _ hk => hk.2) (.int .i64 t404)) (fun _ hk => hk.2) (.int .i64 t405)) (fun _ hk => hk.2) (.int .i64 t406)) (fun _ h_ => h_.1))))) (Kd.R_lt (by (with_reducible repeat (first | apply Kd.R_alloc | apply Kd.R_drewN | apply Kd.R_drew)); exact (Kd.R_mono (Kd.R_far (p := ⟨gb411, 3, none⟩) (Kd.R_far (p := ⟨gb411, 2, none⟩) (Kd.R_far (p := ⟨gb411, 1, none⟩) (Kd.R_far (p := ⟨gb411, 0, none⟩) (Kd.R_types HO391.out BK411.out (by decide)) (fun _ hk => hk.2) (.bool t403)) (fun _ hk => hk.2) (.int .i64 t404)) (fun _ hk => hk.2) (.int .i64 t405)) (fun _ hk => hk.2) (.int .i64 t406)) (fun _ h_ => h_.1))))) (Kd.R_lt (by (with_reducible repeat (first | apply Kd.R_alloc | apply Kd.R_drewN | apply Kd.R_drew)); exact (Kd.R_mono (Kd.R_far (p := ⟨gb411, 3, none⟩) (Kd.R_far (p := ⟨gb411, 2, none⟩) (Kd.R_far (p := ⟨gb411, 1, none⟩) (Kd.R_far (p := ⟨gb411, 0, none⟩) (Kd.R_types HO400.out BK411.out (by decide)) (fun _ hk => hk.2) (.bool t403)) (fun _ hk => hk.2) (.int .i64 t404)) (fun _ hk => hk.2) (.int .i64 t405)) (fun _ hk => hk.2) (.int .i64 t406)) (fun _ h_ => h_.1))))) (Kd.R_lt (by (with_reducible repeat (first | apply Kd.R_alloc | apply Kd.R_drewN | apply Kd.R_drew)); exact (Kd.R_mono (Kd.R_far (p := ⟨gb411, 3, none⟩) (Kd.R_far (p := ⟨gb411, 2, none⟩) (Kd.R_far (p := ⟨gb411, 1, none⟩) (Kd.R_far (p := ⟨gb411, 0, none⟩) (Kd.R_types HO409.out BK411.out (by decide)) (fun _ hk => hk.2) (.bool t403)) (fun _ hk => hk.2) (.int .i64 t404)) (fun _ hk => hk.2) (.int .i64 t405)) (fun _ hk => hk.2) (.int .i64 t406)) (fun _ h_ => h_.1))))) (below_size (by repeat (first | (with_reducible first | exact HB.out | apply below_alloc | apply pw_below_drewN | apply below_drew1 | refine below_set ?_ GE393.out | refine below_set ?_ GE402.out | refine below_set ?_ GE411.out) | exact HB.out)))); have n7_ := Aside0.mk (blk_below (g := gb393) (o := .cells #[.bool t385, .int .i64 t386, .int .i64 t387, .int .i64 t388] 24 (0, 0)) (by (with_reducible repeat (first | refine blk_drewN ?_ _ | refine blk_drew ?_ | refine blk_alloc ?_ _)); refine blk_far ?_ NB393_411.out _; (with_reducible repeat (first | refine blk_drewN ?_ _ | refine blk_drew ?_ | refine blk_alloc ?_ _)); refine blk_far ?_ NB393_411.out _; (with_reducible repeat (first | refine blk_drewN ?_ _ | refine blk_drew ?_ | refine blk_alloc ?_ _)); refine blk_far ?_ NB393_411.out _; (with_reducible repeat (first | refine blk_drewN ?_ _ | refine blk_drew ?_ | refine blk_alloc ?_ _)); refine blk_far ?_ NB393_411.out _; (with_reducible repeat (first | refine blk_drewN ?_ _ | refine blk_drew ?_ | refine blk_alloc ?_ _)); exact BK393.out) hb); have n8_ := Aside0.mk (blk_below (g := gb402) (o := .cells #[.bool t394, .int .i64 t395, .int .i64 t396, .int .i64 t397] 24 (0, 0)) (by (with_reducible repeat (first | refine blk_drewN ?_ _ | refine blk_drew ?_ | refine blk_alloc ?_ _)); refine blk_far ?_ NB402_411.out _; (with_reducible repeat (first | refine blk_drewN ?_ _ | refine blk_drew ?_ | refine blk_alloc ?_ _)); refine blk_far ?_ NB402_411.out _; (with_reducible repeat (first | refine blk_drewN ?_ _ | refine blk_drew ?_ | refine blk_alloc ?_ _)); refine blk_far ?_ NB402_411.out _; (with_reducible repeat (first | refine blk_drewN ?_ _ | refine blk_drew ?_ | refine blk_alloc ?_ _)); refine blk_far ?_ NB402_411.out _; (with_reducible repeat (first | refine blk_drewN ?_ _ | refine blk_drew ?_ | refine blk_alloc ?_ _)); exact BK402.out) hb); have n9_ := Aside0.mk (blk_below (g := gb411) (o := .cells #[.bool t403, .int .i64 t404, .int .i64 t405, .int .i64 t406] 24 (0, 0)) (by (with_reducible repeat (first | refine blk_drewN ?_ _ | refine blk_drew ?_ | refine blk_alloc ?_ _)); refine blk_put (cs := #[.bool t403, .int .i64 t404, .int .i64 t405, .int .i64 0]) ?_ 3 _ rfl; (with_reducible repeat (first | refine blk_drewN ?_ _ | refine blk_drew ?_ | refine blk_alloc ?_ _)); refine blk_put (cs := #[.bool t403, .int .i64 t404, .int .i64 0, .int .i64 0]) ?_ 2 _ rfl; (with_reducible repeat (first | refine blk_drewN ?_ _ | refine blk_drew ?_ | refine blk_alloc ?_ _)); refine blk_put (cs := #[.bool t403, .int .i64 0, .int .i64 0, .int .i64 0]) ?_ 1 _ rfl; (with_reducible repeat (first | refine blk_drewN ?_ _ | refine blk_drew ?_ | refine blk_alloc ?_ _)); refine blk_put (cs := #[.bool false, .int .i64 0, .int .i64 0, .int .i64 0]) ?_ 0 _ rfl; (with_reducible repeat (first | refine blk_drewN ?_ _ | refine blk_drew ?_ | refine blk_alloc ?_ _)); exact BK411.out) hb); have n10_ := Aside0.mk (below_step (by repeat (first | (with_reducible first | exact HB.out | apply below_alloc | apply pw_below_drewN | apply below_drew1 | refine below_set ?_ GE393.out | refine below_set ?_ GE402.out | refine below_set ?_ GE411.out) | exact HB.out)) hb); clear HO372; clear HO376; clear HO380; clear HO391; clear HO400; clear HO409; clear BK393; clear BK402; clear BK411; clear HB; have HO372 := n0_; have HO376 := n1_; have HO380 := n2_; have HO391 := n3_; have HO400 := n4_; have HO409 := n5_; have HO416 := n6_; have BK393 := n7_; have BK402 := n8_; have BK411 := n9_; have HB := n10_; clear n0_ n1_ n2_ n3_ n4_ n5_ n6_ n7_ n8_ n9_ n10_; (try clear hb); (try clear hb2); (try clear hk); (try clear hi); (try clear ho0); have hcz43_0 : w42.cell? ⟨gb402, 0, none⟩ = some (.bool t394) := (blk_cell BK402.out 0).trans rfl; have hcz43_1 : w42.cell? ⟨gb402, 1, none⟩ = some (.int .i64 t395) := (blk_cell BK402.out 1).trans rfl; have hcz43_2 : w42.cell? ⟨gb402, 2, none⟩ = some (.int .i64 t396) := (blk_cell BK402.out 2).trans rfl; have hcz43_3 : w42.cell? ⟨gb402, 3, none⟩ = some (.int .i64 t397) := (blk_cell BK402.out 3).trans rfl; have hfz43_0 := blk_frozen BK402.out 0; have hfz43_1 := blk_frozen BK402.out 1; have hfz43_2 := blk_frozen BK402.out 2; have hfz43_3 := blk_frozen BK402.out 3) | ((with_reducible refine gate_callee (f := 19) rfl ?_); refine goesL_ (some 134) rfl rfl Try.func19 (by kernel_rfl) rfl #[.agg #[.bool t394, .int .i64 t395, .int .i64 t396, .int .i64 t397], .int .i64 (wrap64 (a0)), .slice A4 l4.length c4, .int .i64 (wrap64 ((Int.tmod (wrap64 (a5)) 14) + 1))] rfl (by (try simp only [List.map_toArray, List.map_cons, List.map_nil]); first | done | rfl | (simp only [List.length_drop, List.length_take]; rfl)) ?_; (with_reducible refine (trust_Check.calls t394 t395 t396 t397 (wrap64 (a0)) _ _ l4 (wrap64 ((Int.tmod (wrap64 (a5)) 14) + 1)) t417 t418 t419 t420 t421 t424 _ ?side1 ?side2 A21.out).mono ?_); (case side1 => repeat (first | exact (Kd.C_below HR4.out HB.out) | (with_reducible refine Kd.C_alloc ?_ _) | (with_reducible refine Kd.C_drewN ?_ _) | (with_reducible refine Kd.C_drew ?_))); (case side2 => exact HC4.out); rintro e w44 ⟨v422, rfl, ho0, hb⟩; refine ⟨_, rfl, ?_⟩; have n0_ := Aside0.mk (Kd.R_elder' (by (with_reducible repeat (first | apply Kd.R_alloc | apply Kd.R_drewN | apply Kd.R_drew)); exact HO372.out) (Kd.R_base ho0) hb); have n1_ := Aside0.mk (Kd.R_elder' (by (with_reducible repeat (first | apply Kd.R_alloc | apply Kd.R_drewN | apply Kd.R_drew)); exact HO376.out) (Kd.R_base ho0) hb); have n2_ := Aside0.mk (Kd.R_elder' (by (with_reducible repeat (first | apply Kd.R_alloc | apply Kd.R_drewN | apply Kd.R_drew)); exact HO380.out) (Kd.R_base ho0) hb); have n3_ := Aside0.mk (Kd.R_elder' (by (with_reducible repeat (first | apply Kd.R_alloc | apply Kd.R_drewN | apply Kd.R_drew)); exact HO391.out) (Kd.R_base ho0) hb); have n4_ := Aside0.mk (Kd.R_elder' (by (with_reducible repeat (first | apply Kd.R_alloc | apply Kd.R_drewN | apply Kd.R_drew)); exact HO400.out) (Kd.R_base ho0) hb); have n5_ := Aside0.mk (Kd.R_elder' (by (with_reducible repeat (first | apply Kd.R_alloc | apply Kd.R_drewN | apply Kd.R_drew)); exact HO409.out) (Kd.R_base ho0) hb); have n6_ := Aside0.mk (Kd.R_elder' (by (with_reducible repeat (first | apply Kd.R_alloc | apply Kd.R_drewN | apply Kd.R_drew)); exact HO416.out) (Kd.R_base ho0) hb); have n7_ := Aside0.mk (Kd.R_lower (Kd.R_new' (Kd.R_new' (Kd.R_new' (Kd.R_new' (Kd.R_new' (Kd.R_new' (Kd.R_new' ho0 (Kd.R_lt (by (with_reducible repeat (first | apply Kd.R_alloc | apply Kd.R_drewN | apply Kd.R_drew)); exact HO372.out))) (Kd.R_lt (by (with_reducible repeat (first | apply Kd.R_alloc | apply Kd.R_drewN | apply Kd.R_drew)); exact HO376.out))) (Kd.R_lt (by (with_reducible repeat (first | apply Kd.R_alloc | apply Kd.R_drewN | apply Kd.R_drew)); exact HO380.out))) (Kd.R_lt (by (with_reducible repeat (first | apply Kd.R_alloc | apply Kd.R_drewN | apply Kd.R_drew)); exact HO391.out))) (Kd.R_lt (by (with_reducible repeat (first | apply Kd.R_alloc | apply Kd.R_drewN | apply Kd.R_drew)); exact HO400.out))) (Kd.R_lt (by (with_reducible repeat (first | apply Kd.R_alloc | apply Kd.R_drewN | apply Kd.R_drew)); exact HO409.out))) (Kd.R_lt (by (with_reducible repeat (first | apply Kd.R_alloc | apply Kd.R_drewN | apply Kd.R_drew)); exact HO416.out))) (below_size (by repeat (first | (with_reducible first | exact HB.out | apply below_alloc | apply pw_below_drewN | apply below_drew1 | refine below_set ?_ GE393.out | refine below_set ?_ GE402.out | refine below_set ?_ GE411.out) | exact HB.out)))); have n8_ := Aside0.mk (blk_below (g := gb393) (o := .cells #[.bool t385, .int .i64 t386, .int .i64 t387, .int .i64 t388] 24 (0, 0)) (by (with_reducible repeat (first | refine blk_drewN ?_ _ | refine blk_drew ?_ | refine blk_alloc ?_ _)); exact BK393.out) hb); have n9_ := Aside0.mk (blk_below (g := gb402) (o := .cells #[.bool t394, .int .i64 t395, .int .i64 t396, .int .i64 t397] 24 (0, 0)) (by (with_reducible repeat (first | refine blk_drewN ?_ _ | refine blk_drew ?_ | refine blk_alloc ?_ _)); exact BK402.out) hb); have n10_ := Aside0.mk (blk_below (g := gb411) (o := .cells #[.bool t403, .int .i64 t404, .int .i64 t405, .int .i64 t406] 24 (0, 0)) (by (with_reducible repeat (first | refine blk_drewN ?_ _ | refine blk_drew ?_ | refine blk_alloc ?_ _)); exact BK411.out) hb); have n11_ := Aside0.mk (below_step (by repeat (first | (with_reducible first | exact HB.out | apply below_alloc | apply pw_below_drewN | apply below_drew1 | refine below_set ?_ GE393.out | refine below_set ?_ GE402.out | refine below_set ?_ GE411.out) | exact HB.out)) hb); clear HO372; clear HO376; clear HO380; clear HO391; clear HO400; clear HO409; clear HO416; clear BK393; clear BK402; clear BK411; clear HB; have HO372 := n0_; have HO376 := n1_; have HO380 := n2_; have HO391 := n3_; have HO400 := n4_; have HO409 := n5_; have HO416 := n6_; have HO423 := n7_; have BK393 := n8_; have BK402 := n9_; have BK411 := n10_; have HB := n11_; clear n0_ n1_ n2_ n3_ n4_ n5_ n6_ n7_ n8_ n9_ n10_ n11_; (try clear hb); (try clear hb2); (try clear hk); (try clear hi); (try clear ho0)) | ((with_reducible refine gate_dst (N := 35) rfl ?_); (try (refine gate_guard (by rfl) ?_; dsimp only)); refine box_event ?hg (N := 35) ?hd (cs := #[.bool false, .int .i64 0, .int .i64 0, .int .i64 0]) (t := 24) ?hr ?_; (case hd => rfl); (case hg => rfl); (case hr => first | (go_simp; done) | (go_simp; rfl)); intro gb425 hg w45 hbox hb; have n0_ := Aside0.mk (Kd.R_below (by (with_reducible repeat (first | apply Kd.R_alloc | apply Kd.R_drewN | apply Kd.R_drew)); exact HO372.out) hb); have n1_ := Aside0.mk (Kd.R_below (by (with_reducible repeat (first | apply Kd.R_alloc | apply Kd.R_drewN | apply Kd.R_drew)); exact HO376.out) hb); have n2_ := Aside0.mk (Kd.R_below (by (with_reducible repeat (first | apply Kd.R_alloc | apply Kd.R_drewN | apply Kd.R_drew)); exact HO380.out) hb); have n3_ := Aside0.mk (Kd.R_below (by (with_reducible repeat (first | apply Kd.R_alloc | apply Kd.R_drewN | apply Kd.R_drew)); exact HO391.out) hb); have n4_ := Aside0.mk (Kd.R_below (by (with_reducible repeat (first | apply Kd.R_alloc | apply Kd.R_drewN | apply Kd.R_drew)); exact HO400.out) hb); have n5_ := Aside0.mk (Kd.R_below (by (with_reducible repeat (first | apply Kd.R_alloc | apply Kd.R_drewN | apply Kd.R_drew)); exact HO409.out) hb); have n6_ := Aside0.mk (Kd.R_below (by (with_reducible repeat (first | apply Kd.R_alloc | apply Kd.R_drewN | apply Kd.R_drew)); exact HO416.out) hb); have n7_ := Aside0.mk (Kd.R_below (by (with_reducible repeat (first | apply Kd.R_alloc | apply Kd.R_drewN | apply Kd.R_drew)); exact HO423.out) hb); have n8_ := Aside0.mk (blk_below (g := gb393) (o := .cells #[.bool t385, .int .i64 t386, .int .i64 t387, .int .i64 t388] 24 (0, 0)) (by (with_reducible repeat (first | refine blk_drewN ?_ _ | refine blk_drew ?_ | refine blk_alloc ?_ _)); exact BK393.out) hb); have n9_ := Aside0.mk (blk_below (g := gb402) (o := .cells #[.bool t394, .int .i64 t395, .int .i64 t396, .int .i64 t397] 24 (0, 0)) (by (with_reducible repeat (first | refine blk_drewN ?_ _ | refine blk_drew ?_ | refine blk_alloc ?_ _)); exact BK402.out) hb); have n10_ := Aside0.mk (blk_below (g := gb411) (o := .cells #[.bool t403, .int .i64 t404, .int .i64 t405, .int .i64 t406] 24 (0, 0)) (by (with_reducible repeat (first | refine blk_drewN ?_ _ | refine blk_drew ?_ | refine blk_alloc ?_ _)); exact BK411.out) hb); have n11_ := Aside0.mk (below_step (by repeat (first | (with_reducible first | exact HB.out | apply below_alloc | apply pw_below_drewN | apply below_drew1 | refine below_set ?_ GE393.out | refine below_set ?_ GE402.out | refine below_set ?_ GE411.out) | exact HB.out)) hb); have n12_ := Aside0.mk (hbox); have n13_ := Aside0.mk ((by rw [hg]; exact (below_size (by repeat (first | (with_reducible first | exact HB.out | apply below_alloc | apply pw_below_drewN | apply below_drew1 | refine below_set ?_ GE393.out | refine below_set ?_ GE402.out | refine below_set ?_ GE411.out) | exact HB.out))) : w.heap.size ≤ gb425)); have n14_ := Aside0.mk ((by rw [hg]; exact (below_size (by repeat (first | (with_reducible first | exact HB.out | apply below_alloc | apply pw_below_drewN | apply below_drew1 | refine below_set ?_ GE393.out | refine below_set ?_ GE402.out | refine below_set ?_ GE411.out) | exact HB.out))) : w.heap.size ≤ gb425)); have n15_ := Aside0.mk ((by rw [hg]; exact Nat.ne_of_lt (blk_lt (g := gb393) (o := .cells #[.bool t385, .int .i64 t386, .int .i64 t387, .int .i64 t388] 24 (0, 0)) (by (with_reducible repeat (first | refine blk_drewN ?_ _ | refine blk_drew ?_ | refine blk_alloc ?_ _)); exact BK393.out)) : gb393 ≠ gb425)); have n16_ := Aside0.mk ((by rw [hg]; exact Nat.ne_of_gt (blk_lt (g := gb393) (o := .cells #[.bool t385, .int .i64 t386, .int .i64 t387, .int .i64 t388] 24 (0, 0)) (by (with_reducible repeat (first | refine blk_drewN ?_ _ | refine blk_drew ?_ | refine blk_alloc ?_ _)); exact BK393.out)) : gb425 ≠ gb393)); have n17_ := Aside0.mk ((by rw [hg]; exact Nat.ne_of_lt (blk_lt (g := gb402) (o := .cells #[.bool t394, .int .i64 t395, .int .i64 t396, .int .i64 t397] 24 (0, 0)) (by (with_reducible repeat (first | refine blk_drewN ?_ _ | refine blk_drew ?_ | refine blk_alloc ?_ _)); exact BK402.out)) : gb402 ≠ gb425)); have n18_ := Aside0.mk ((by rw [hg]; exact Nat.ne_of_gt (blk_lt (g := gb402) (o := .cells #[.bool t394, .int .i64 t395, .int .i64 t396, .int .i64 t397] 24 (0, 0)) (by (with_reducible repeat (first | refine blk_drewN ?_ _ | refine blk_drew ?_ | refine blk_alloc ?_ _)); exact BK402.out)) : gb425 ≠ gb402)); have n19_ := Aside0.mk ((by rw [hg]; exact Nat.ne_of_lt (blk_lt (g := gb411) (o := .cells #[.bool t403, .int .i64 t404, .int .i64 t405, .int .i64 t406] 24 (0, 0)) (by (with_reducible repeat (first | refine blk_drewN ?_ _ | refine blk_drew ?_ | refine blk_alloc ?_ _)); exact BK411.out)) : gb411 ≠ gb425)); have n20_ := Aside0.mk ((by rw [hg]; exact Nat.ne_of_gt (blk_lt (g := gb411) (o := .cells #[.bool t403, .int .i64 t404, .int .i64 t405, .int .i64 t406] 24 (0, 0)) (by (with_reducible repeat (first | refine blk_drewN ?_ _ | refine blk_drew ?_ | refine blk_alloc ?_ _)); exact BK411.out)) : gb425 ≠ gb411)); clear HO372; clear HO376; clear HO380; clear HO391; clear HO400; clear HO409; clear HO416; clear HO423; clear BK393; clear BK402; clear BK411; clear HB; have HO372 := n0_; have HO376 := n1_; have HO380 := n2_; have HO391 := n3_; have HO400 := n4_; have HO409 := n5_; have HO416 := n6_; have HO423 := n7_; have BK393 := n8_; have BK402 := n9_; have BK411 := n10_; have HB := n11_; have BK425 := n12_; have GW425 := n13_; have GE425 := n14_; have NB393_425 := n15_; have NB425_393 := n16_; have NB402_425 := n17_; have NB425_402 := n18_; have NB411_425 := n19_; have NB425_411 := n20_; clear n0_ n1_ n2_ n3_ n4_ n5_ n6_ n7_ n8_ n9_ n10_ n11_ n12_ n13_ n14_ n15_ n16_ n17_ n18_ n19_ n20_; clear hb hbox hg; have hnb46 := NB425_393.out; have hnc46 := NB393_425.out; have hnb47 := NB425_402.out; have hnc47 := NB402_425.out; have hnb48 := NB425_411.out; have hnc48 := NB411_425.out; have hcz49_0 : w45.cell? ⟨gb425, 0, none⟩ = some (.bool false) := (blk_cell BK425.out 0).trans rfl; have hcz49_1 : w45.cell? ⟨gb425, 1, none⟩ = some (.int .i64 0) := (blk_cell BK425.out 1).trans rfl; have hcz49_2 : w45.cell? ⟨gb425, 2, none⟩ = some (.int .i64 0) := (blk_cell BK425.out 2).trans rfl; have hcz49_3 : w45.cell? ⟨gb425, 3, none⟩ = some (.int .i64 0) := (blk_cell BK425.out 3).trans rfl; have hfz49_0 := blk_frozen BK425.out 0; have hfz49_1 := blk_frozen BK425.out 1; have hfz49_2 := blk_frozen BK425.out 2; have hfz49_3 := blk_frozen BK425.out 3))
        (try simp only [Act.put, List.setIfInBounds_toArray, List.set_cons_zero, List.set_cons_succ])
        go_cut [165] (fun v165 wc => ∃ (kq : Nat) (x165_21 : Bool), v165 = .bool x165_21 ∧ Aside0 (phaetonlaw16_TrustStale.j1 kq l3 t368 (wrap64 ((Int.tmod (wrap64 (a5)) 14) + 1)) (wrap64 ((Int.tmod (wrap64 (a2)) 14) + 1)) t398 t401 t407 t410 x165_21 = some r) ∧ Aside0 (kq ≤ kj7) ∧ Aside0 (Kd.R (Kd.int .u8) 5 wc w.heap.size (fun k_ => some k_ ≠ (v408 : Value).ownBlock) v399 t398) ∧ Aside0 (Kd.R (Kd.int .u8) 5 wc w.heap.size (fun k_ => some k_ ≠ (v399 : Value).ownBlock) v408 t407) ∧ Aside0 (wc.heap[gb393]? = some (.cells #[.bool t385, .int .i64 t386, .int .i64 t387, .int .i64 t388] 24 (0, 0))) ∧ Aside0 (wc.heap[gb402]? = some (.cells #[.bool t394, .int .i64 t395, .int .i64 t396, .int .i64 t397] 24 (0, 0))) ∧ Aside0 (wc.heap[gb411]? = some (.cells #[.bool t403, .int .i64 t404, .int .i64 t405, .int .i64 t406] 24 (0, 0))) ∧ Aside0 (wc.heap[gb425]? = some (.cells #[.bool t417, .int .i64 t418, .int .i64 t419, .int .i64 t420] 24 (0, 0))) ∧ Aside0 (Below w.heap.size w wc))
        case first => as_aux_lemma =>
          have H := HC22.out
          clear HC22
          by_cases c50 : t414 = true
          · subst c50
            have H1 : (phaetonlaw16_TrustStale.j1 kj7 l3 t368 (wrap64 ((Int.tmod (wrap64 (a5)) 14) + 1)) (wrap64 ((Int.tmod (wrap64 (a2)) 14) + 1)) t398 t401 t407 t410 false) = some r := by rw [if_pos rfl] at H; exact H
            clear H
            have H := H1
            clear H1
            have H' := Aside0.mk H
            clear H
            go_wp2
            go_meet
            case rel => exact ⟨_, (false), (by first | rfl | (simp; done) | (simp [*]; done)), H', ⟨by have := HJ7.out; first | omega | exact Nat.le_refl _⟩, ⟨by (with_reducible repeat (first | apply Kd.R_alloc | apply Kd.R_drewN | apply Kd.R_drew)); exact Kd.R_mono (Kd.R_far (p := ⟨gb425, 3, none⟩) (Kd.R_far (p := ⟨gb425, 2, none⟩) (Kd.R_far (p := ⟨gb425, 1, none⟩) (Kd.R_far (p := ⟨gb425, 0, none⟩) (Kd.R_types HO400.out BK425.out (by decide)) (fun _ hk => hk.2) (.bool t417)) (fun _ hk => hk.2) (.int .i64 t418)) (fun _ hk => hk.2) (.int .i64 t419)) (fun _ hk => hk.2) (.int .i64 t420)) (fun _ hk => hk.1.1.1.2)⟩, ⟨by (with_reducible repeat (first | apply Kd.R_alloc | apply Kd.R_drewN | apply Kd.R_drew)); exact Kd.R_mono (Kd.R_far (p := ⟨gb425, 3, none⟩) (Kd.R_far (p := ⟨gb425, 2, none⟩) (Kd.R_far (p := ⟨gb425, 1, none⟩) (Kd.R_far (p := ⟨gb425, 0, none⟩) (Kd.R_types HO409.out BK425.out (by decide)) (fun _ hk => hk.2) (.bool t417)) (fun _ hk => hk.2) (.int .i64 t418)) (fun _ hk => hk.2) (.int .i64 t419)) (fun _ hk => hk.2) (.int .i64 t420)) (fun _ hk => hk.1.1.1.2)⟩, ⟨by (with_reducible repeat (first | refine blk_drewN ?_ _ | refine blk_drew ?_ | refine blk_alloc ?_ _)); refine blk_far ?_ NB393_425.out _; (with_reducible repeat (first | refine blk_drewN ?_ _ | refine blk_drew ?_ | refine blk_alloc ?_ _)); refine blk_far ?_ NB393_425.out _; (with_reducible repeat (first | refine blk_drewN ?_ _ | refine blk_drew ?_ | refine blk_alloc ?_ _)); refine blk_far ?_ NB393_425.out _; (with_reducible repeat (first | refine blk_drewN ?_ _ | refine blk_drew ?_ | refine blk_alloc ?_ _)); refine blk_far ?_ NB393_425.out _; (with_reducible repeat (first | refine blk_drewN ?_ _ | refine blk_drew ?_ | refine blk_alloc ?_ _)); exact BK393.out⟩, ⟨by (with_reducible repeat (first | refine blk_drewN ?_ _ | refine blk_drew ?_ | refine blk_alloc ?_ _)); refine blk_far ?_ NB402_425.out _; (with_reducible repeat (first | refine blk_drewN ?_ _ | refine blk_drew ?_ | refine blk_alloc ?_ _)); refine blk_far ?_ NB402_425.out _; (with_reducible repeat (first | refine blk_drewN ?_ _ | refine blk_drew ?_ | refine blk_alloc ?_ _)); refine blk_far ?_ NB402_425.out _; (with_reducible repeat (first | refine blk_drewN ?_ _ | refine blk_drew ?_ | refine blk_alloc ?_ _)); refine blk_far ?_ NB402_425.out _; (with_reducible repeat (first | refine blk_drewN ?_ _ | refine blk_drew ?_ | refine blk_alloc ?_ _)); exact BK402.out⟩, ⟨by (with_reducible repeat (first | refine blk_drewN ?_ _ | refine blk_drew ?_ | refine blk_alloc ?_ _)); refine blk_far ?_ NB411_425.out _; (with_reducible repeat (first | refine blk_drewN ?_ _ | refine blk_drew ?_ | refine blk_alloc ?_ _)); refine blk_far ?_ NB411_425.out _; (with_reducible repeat (first | refine blk_drewN ?_ _ | refine blk_drew ?_ | refine blk_alloc ?_ _)); refine blk_far ?_ NB411_425.out _; (with_reducible repeat (first | refine blk_drewN ?_ _ | refine blk_drew ?_ | refine blk_alloc ?_ _)); refine blk_far ?_ NB411_425.out _; (with_reducible repeat (first | refine blk_drewN ?_ _ | refine blk_drew ?_ | refine blk_alloc ?_ _)); exact BK411.out⟩, ⟨by (with_reducible repeat (first | refine blk_drewN ?_ _ | refine blk_drew ?_ | refine blk_alloc ?_ _)); refine blk_put (cs := #[.bool t417, .int .i64 t418, .int .i64 t419, .int .i64 0]) ?_ 3 _ rfl; (with_reducible repeat (first | refine blk_drewN ?_ _ | refine blk_drew ?_ | refine blk_alloc ?_ _)); refine blk_put (cs := #[.bool t417, .int .i64 t418, .int .i64 0, .int .i64 0]) ?_ 2 _ rfl; (with_reducible repeat (first | refine blk_drewN ?_ _ | refine blk_drew ?_ | refine blk_alloc ?_ _)); refine blk_put (cs := #[.bool t417, .int .i64 0, .int .i64 0, .int .i64 0]) ?_ 1 _ rfl; (with_reducible repeat (first | refine blk_drewN ?_ _ | refine blk_drew ?_ | refine blk_alloc ?_ _)); refine blk_put (cs := #[.bool false, .int .i64 0, .int .i64 0, .int .i64 0]) ?_ 0 _ rfl; (with_reducible repeat (first | refine blk_drewN ?_ _ | refine blk_drew ?_ | refine blk_alloc ?_ _)); exact BK425.out⟩, ⟨by repeat (first | (with_reducible first | exact HB.out | apply below_alloc | apply pw_below_drewN | apply below_drew1 | refine below_set ?_ GE393.out | refine below_set ?_ GE402.out | refine below_set ?_ GE411.out | refine below_set ?_ GE425.out) | exact HB.out)⟩⟩
          · replace c50 := Bool.eq_false_iff.mpr c50
            subst c50
            have H1 : (if t424 = 5 then (if (t417 != t394) = true then (phaetonlaw16_TrustStale.j1 kj7 l3 t368 (wrap64 ((Int.tmod (wrap64 (a5)) 14) + 1)) (wrap64 ((Int.tmod (wrap64 (a2)) 14) + 1)) t398 t401 t407 t410 true) else (if t418 = t395 then (phaetonlaw16_TrustStale.j1 kj7 l3 t368 (wrap64 ((Int.tmod (wrap64 (a5)) 14) + 1)) (wrap64 ((Int.tmod (wrap64 (a2)) 14) + 1)) t398 t401 t407 t410 (t420 != (wrap64 (t397 + 1)))) else (phaetonlaw16_TrustStale.j1 kj7 l3 t368 (wrap64 ((Int.tmod (wrap64 (a5)) 14) + 1)) (wrap64 ((Int.tmod (wrap64 (a2)) 14) + 1)) t398 t401 t407 t410 true))) else (phaetonlaw16_TrustStale.j1 kj7 l3 t368 (wrap64 ((Int.tmod (wrap64 (a5)) 14) + 1)) (wrap64 ((Int.tmod (wrap64 (a2)) 14) + 1)) t398 t401 t407 t410 true)) = some r := by rw [if_neg (show ¬ (false = true) by decide)] at H; exact H
            clear H
            have H := H1
            clear H1
            by_cases c51 : t424 = 5
            · rw [if_pos c51] at H
              have c51b0 : (t424 == 5) = true := beq_iff_eq.mpr c51
              have c51b1 : (t424 != 5) = false := bne_eq_false_iff_eq.mpr c51
              clear c51
              (first | rw [c51b0] | (simp only [i64_w, i32_w]; rw [c51b0]) | skip)
              by_cases c52 : (t417 != t394) = true
              · rw [if_pos c52] at H
                have c52b0 : (t417 != t394) = true := c52
                (try (have c52b1 : decide (t417 = t394) = false := by simpa using c52))
                (try (have c52b2 : (t417 == t394) = false := by simpa using c52))
                (try (have c52b3 : ¬ (t417 = t394) := by simpa using c52))
                clear c52
                have H' := Aside0.mk H
                clear H
                have hnb53 := NB425_393.out
                have hnc53 := NB393_425.out
                have hnb54 := NB425_402.out
                have hnc54 := NB402_425.out
                have hnb55 := NB425_411.out
                have hnc55 := NB411_425.out
                have hcz56_0 : w45.cell? ⟨gb425, 0, none⟩ = some (.bool false) := (blk_cell BK425.out 0).trans rfl
                have hcz56_1 : w45.cell? ⟨gb425, 1, none⟩ = some (.int .i64 0) := (blk_cell BK425.out 1).trans rfl
                have hcz56_2 : w45.cell? ⟨gb425, 2, none⟩ = some (.int .i64 0) := (blk_cell BK425.out 2).trans rfl
                have hcz56_3 : w45.cell? ⟨gb425, 3, none⟩ = some (.int .i64 0) := (blk_cell BK425.out 3).trans rfl
                have hfz56_0 := blk_frozen BK425.out 0
                have hfz56_1 := blk_frozen BK425.out 1
                have hfz56_2 := blk_frozen BK425.out 2
                have hfz56_3 := blk_frozen BK425.out 3
                have hnb57 := NB402_393.out
                have hnc57 := NB393_402.out
                have hnb58 := NB402_411.out
                have hnc58 := NB411_402.out
                have hcz59_0 : w45.cell? ⟨gb402, 0, none⟩ = some (.bool t394) := (blk_cell BK402.out 0).trans rfl
                have hcz59_1 : w45.cell? ⟨gb402, 1, none⟩ = some (.int .i64 t395) := (blk_cell BK402.out 1).trans rfl
                have hcz59_2 : w45.cell? ⟨gb402, 2, none⟩ = some (.int .i64 t396) := (blk_cell BK402.out 2).trans rfl
                have hcz59_3 : w45.cell? ⟨gb402, 3, none⟩ = some (.int .i64 t397) := (blk_cell BK402.out 3).trans rfl
                have hfz59_0 := blk_frozen BK402.out 0
                have hfz59_1 := blk_frozen BK402.out 1
                have hfz59_2 := blk_frozen BK402.out 2
                have hfz59_3 := blk_frozen BK402.out 3
                go_wp2
                go_meet
                case rel => exact ⟨_, (true), (by first | rfl | (simp; done) | (simp [*]; done)), H', ⟨by have := HJ7.out; first | omega | exact Nat.le_refl _⟩, ⟨by (with_reducible repeat (first | apply Kd.R_alloc | apply Kd.R_drewN | apply Kd.R_drew)); exact Kd.R_mono (Kd.R_far (p := ⟨gb425, 3, none⟩) (Kd.R_far (p := ⟨gb425, 2, none⟩) (Kd.R_far (p := ⟨gb425, 1, none⟩) (Kd.R_far (p := ⟨gb425, 0, none⟩) (Kd.R_types HO400.out BK425.out (by decide)) (fun _ hk => hk.2) (.bool t417)) (fun _ hk => hk.2) (.int .i64 t418)) (fun _ hk => hk.2) (.int .i64 t419)) (fun _ hk => hk.2) (.int .i64 t420)) (fun _ hk => hk.1.1.1.2)⟩, ⟨by (with_reducible repeat (first | apply Kd.R_alloc | apply Kd.R_drewN | apply Kd.R_drew)); exact Kd.R_mono (Kd.R_far (p := ⟨gb425, 3, none⟩) (Kd.R_far (p := ⟨gb425, 2, none⟩) (Kd.R_far (p := ⟨gb425, 1, none⟩) (Kd.R_far (p := ⟨gb425, 0, none⟩) (Kd.R_types HO409.out BK425.out (by decide)) (fun _ hk => hk.2) (.bool t417)) (fun _ hk => hk.2) (.int .i64 t418)) (fun _ hk => hk.2) (.int .i64 t419)) (fun _ hk => hk.2) (.int .i64 t420)) (fun _ hk => hk.1.1.1.2)⟩, ⟨by (with_reducible repeat (first | refine blk_drewN ?_ _ | refine blk_drew ?_ | refine blk_alloc ?_ _)); refine blk_far ?_ NB393_425.out _; (with_reducible repeat (first | refine blk_drewN ?_ _ | refine blk_drew ?_ | refine blk_alloc ?_ _)); refine blk_far ?_ NB393_425.out _; (with_reducible repeat (first | refine blk_drewN ?_ _ | refine blk_drew ?_ | refine blk_alloc ?_ _)); refine blk_far ?_ NB393_425.out _; (with_reducible repeat (first | refine blk_drewN ?_ _ | refine blk_drew ?_ | refine blk_alloc ?_ _)); refine blk_far ?_ NB393_425.out _; (with_reducible repeat (first | refine blk_drewN ?_ _ | refine blk_drew ?_ | refine blk_alloc ?_ _)); exact BK393.out⟩, ⟨by (with_reducible repeat (first | refine blk_drewN ?_ _ | refine blk_drew ?_ | refine blk_alloc ?_ _)); refine blk_far ?_ NB402_425.out _; (with_reducible repeat (first | refine blk_drewN ?_ _ | refine blk_drew ?_ | refine blk_alloc ?_ _)); refine blk_far ?_ NB402_425.out _; (with_reducible repeat (first | refine blk_drewN ?_ _ | refine blk_drew ?_ | refine blk_alloc ?_ _)); refine blk_far ?_ NB402_425.out _; (with_reducible repeat (first | refine blk_drewN ?_ _ | refine blk_drew ?_ | refine blk_alloc ?_ _)); refine blk_far ?_ NB402_425.out _; (with_reducible repeat (first | refine blk_drewN ?_ _ | refine blk_drew ?_ | refine blk_alloc ?_ _)); exact BK402.out⟩, ⟨by (with_reducible repeat (first | refine blk_drewN ?_ _ | refine blk_drew ?_ | refine blk_alloc ?_ _)); refine blk_far ?_ NB411_425.out _; (with_reducible repeat (first | refine blk_drewN ?_ _ | refine blk_drew ?_ | refine blk_alloc ?_ _)); refine blk_far ?_ NB411_425.out _; (with_reducible repeat (first | refine blk_drewN ?_ _ | refine blk_drew ?_ | refine blk_alloc ?_ _)); refine blk_far ?_ NB411_425.out _; (with_reducible repeat (first | refine blk_drewN ?_ _ | refine blk_drew ?_ | refine blk_alloc ?_ _)); refine blk_far ?_ NB411_425.out _; (with_reducible repeat (first | refine blk_drewN ?_ _ | refine blk_drew ?_ | refine blk_alloc ?_ _)); exact BK411.out⟩, ⟨by (with_reducible repeat (first | refine blk_drewN ?_ _ | refine blk_drew ?_ | refine blk_alloc ?_ _)); refine blk_put (cs := #[.bool t417, .int .i64 t418, .int .i64 t419, .int .i64 0]) ?_ 3 _ rfl; (with_reducible repeat (first | refine blk_drewN ?_ _ | refine blk_drew ?_ | refine blk_alloc ?_ _)); refine blk_put (cs := #[.bool t417, .int .i64 t418, .int .i64 0, .int .i64 0]) ?_ 2 _ rfl; (with_reducible repeat (first | refine blk_drewN ?_ _ | refine blk_drew ?_ | refine blk_alloc ?_ _)); refine blk_put (cs := #[.bool t417, .int .i64 0, .int .i64 0, .int .i64 0]) ?_ 1 _ rfl; (with_reducible repeat (first | refine blk_drewN ?_ _ | refine blk_drew ?_ | refine blk_alloc ?_ _)); refine blk_put (cs := #[.bool false, .int .i64 0, .int .i64 0, .int .i64 0]) ?_ 0 _ rfl; (with_reducible repeat (first | refine blk_drewN ?_ _ | refine blk_drew ?_ | refine blk_alloc ?_ _)); exact BK425.out⟩, ⟨by repeat (first | (with_reducible first | exact HB.out | apply below_alloc | apply pw_below_drewN | apply below_drew1 | refine below_set ?_ GE393.out | refine below_set ?_ GE402.out | refine below_set ?_ GE411.out | refine below_set ?_ GE425.out) | exact HB.out)⟩⟩
              · rw [if_neg c52] at H
                have c52b0 : (t417 != t394) = false := by simpa using c52
                (try (have c52b1 : decide (t417 = t394) = true := by simpa using c52))
                (try (have c52b2 : (t417 == t394) = true := by simpa using c52))
                clear c52
                by_cases c60 : t418 = t395
                · rw [if_pos c60] at H
                  have c60b0 : (t418 == t395) = true := beq_iff_eq.mpr c60
                  have c60b1 : (t418 != t395) = false := bne_eq_false_iff_eq.mpr c60
                  clear c60
                  have H' := Aside0.mk H
                  clear H
                  have hnb61 := NB425_393.out
                  have hnc61 := NB393_425.out
                  have hnb62 := NB425_402.out
                  have hnc62 := NB402_425.out
                  have hnb63 := NB425_411.out
                  have hnc63 := NB411_425.out
                  have hcz64_0 : w45.cell? ⟨gb425, 0, none⟩ = some (.bool false) := (blk_cell BK425.out 0).trans rfl
                  have hcz64_1 : w45.cell? ⟨gb425, 1, none⟩ = some (.int .i64 0) := (blk_cell BK425.out 1).trans rfl
                  have hcz64_2 : w45.cell? ⟨gb425, 2, none⟩ = some (.int .i64 0) := (blk_cell BK425.out 2).trans rfl
                  have hcz64_3 : w45.cell? ⟨gb425, 3, none⟩ = some (.int .i64 0) := (blk_cell BK425.out 3).trans rfl
                  have hfz64_0 := blk_frozen BK425.out 0
                  have hfz64_1 := blk_frozen BK425.out 1
                  have hfz64_2 := blk_frozen BK425.out 2
                  have hfz64_3 := blk_frozen BK425.out 3
                  have hnb65 := NB402_393.out
                  have hnc65 := NB393_402.out
                  have hnb66 := NB402_411.out
                  have hnc66 := NB411_402.out
                  have hcz67_0 : w45.cell? ⟨gb402, 0, none⟩ = some (.bool t394) := (blk_cell BK402.out 0).trans rfl
                  have hcz67_1 : w45.cell? ⟨gb402, 1, none⟩ = some (.int .i64 t395) := (blk_cell BK402.out 1).trans rfl
                  have hcz67_2 : w45.cell? ⟨gb402, 2, none⟩ = some (.int .i64 t396) := (blk_cell BK402.out 2).trans rfl
                  have hcz67_3 : w45.cell? ⟨gb402, 3, none⟩ = some (.int .i64 t397) := (blk_cell BK402.out 3).trans rfl
                  have hfz67_0 := blk_frozen BK402.out 0
                  have hfz67_1 := blk_frozen BK402.out 1
                  have hfz67_2 := blk_frozen BK402.out 2
                  have hfz67_3 := blk_frozen BK402.out 3
                  go_wp2
                  go_meet
                  case rel => exact ⟨_, ((t420 != (wrap64 (t397 + 1)))), (by first | rfl | (simp; done) | (simp [*]; done)), H', ⟨by have := HJ7.out; first | omega | exact Nat.le_refl _⟩, ⟨by (with_reducible repeat (first | apply Kd.R_alloc | apply Kd.R_drewN | apply Kd.R_drew)); exact Kd.R_mono (Kd.R_far (p := ⟨gb425, 3, none⟩) (Kd.R_far (p := ⟨gb425, 2, none⟩) (Kd.R_far (p := ⟨gb425, 1, none⟩) (Kd.R_far (p := ⟨gb425, 0, none⟩) (Kd.R_types HO400.out BK425.out (by decide)) (fun _ hk => hk.2) (.bool t417)) (fun _ hk => hk.2) (.int .i64 t418)) (fun _ hk => hk.2) (.int .i64 t419)) (fun _ hk => hk.2) (.int .i64 t420)) (fun _ hk => hk.1.1.1.2)⟩, ⟨by (with_reducible repeat (first | apply Kd.R_alloc | apply Kd.R_drewN | apply Kd.R_drew)); exact Kd.R_mono (Kd.R_far (p := ⟨gb425, 3, none⟩) (Kd.R_far (p := ⟨gb425, 2, none⟩) (Kd.R_far (p := ⟨gb425, 1, none⟩) (Kd.R_far (p := ⟨gb425, 0, none⟩) (Kd.R_types HO409.out BK425.out (by decide)) (fun _ hk => hk.2) (.bool t417)) (fun _ hk => hk.2) (.int .i64 t418)) (fun _ hk => hk.2) (.int .i64 t419)) (fun _ hk => hk.2) (.int .i64 t420)) (fun _ hk => hk.1.1.1.2)⟩, ⟨by (with_reducible repeat (first | refine blk_drewN ?_ _ | refine blk_drew ?_ | refine blk_alloc ?_ _)); refine blk_far ?_ NB393_425.out _; (with_reducible repeat (first | refine blk_drewN ?_ _ | refine blk_drew ?_ | refine blk_alloc ?_ _)); refine blk_far ?_ NB393_425.out _; (with_reducible repeat (first | refine blk_drewN ?_ _ | refine blk_drew ?_ | refine blk_alloc ?_ _)); refine blk_far ?_ NB393_425.out _; (with_reducible repeat (first | refine blk_drewN ?_ _ | refine blk_drew ?_ | refine blk_alloc ?_ _)); refine blk_far ?_ NB393_425.out _; (with_reducible repeat (first | refine blk_drewN ?_ _ | refine blk_drew ?_ | refine blk_alloc ?_ _)); exact BK393.out⟩, ⟨by (with_reducible repeat (first | refine blk_drewN ?_ _ | refine blk_drew ?_ | refine blk_alloc ?_ _)); refine blk_far ?_ NB402_425.out _; (with_reducible repeat (first | refine blk_drewN ?_ _ | refine blk_drew ?_ | refine blk_alloc ?_ _)); refine blk_far ?_ NB402_425.out _; (with_reducible repeat (first | refine blk_drewN ?_ _ | refine blk_drew ?_ | refine blk_alloc ?_ _)); refine blk_far ?_ NB402_425.out _; (with_reducible repeat (first | refine blk_drewN ?_ _ | refine blk_drew ?_ | refine blk_alloc ?_ _)); refine blk_far ?_ NB402_425.out _; (with_reducible repeat (first | refine blk_drewN ?_ _ | refine blk_drew ?_ | refine blk_alloc ?_ _)); exact BK402.out⟩, ⟨by (with_reducible repeat (first | refine blk_drewN ?_ _ | refine blk_drew ?_ | refine blk_alloc ?_ _)); refine blk_far ?_ NB411_425.out _; (with_reducible repeat (first | refine blk_drewN ?_ _ | refine blk_drew ?_ | refine blk_alloc ?_ _)); refine blk_far ?_ NB411_425.out _; (with_reducible repeat (first | refine blk_drewN ?_ _ | refine blk_drew ?_ | refine blk_alloc ?_ _)); refine blk_far ?_ NB411_425.out _; (with_reducible repeat (first | refine blk_drewN ?_ _ | refine blk_drew ?_ | refine blk_alloc ?_ _)); refine blk_far ?_ NB411_425.out _; (with_reducible repeat (first | refine blk_drewN ?_ _ | refine blk_drew ?_ | refine blk_alloc ?_ _)); exact BK411.out⟩, ⟨by (with_reducible repeat (first | refine blk_drewN ?_ _ | refine blk_drew ?_ | refine blk_alloc ?_ _)); refine blk_put (cs := #[.bool t417, .int .i64 t418, .int .i64 t419, .int .i64 0]) ?_ 3 _ rfl; (with_reducible repeat (first | refine blk_drewN ?_ _ | refine blk_drew ?_ | refine blk_alloc ?_ _)); refine blk_put (cs := #[.bool t417, .int .i64 t418, .int .i64 0, .int .i64 0]) ?_ 2 _ rfl; (with_reducible repeat (first | refine blk_drewN ?_ _ | refine blk_drew ?_ | refine blk_alloc ?_ _)); refine blk_put (cs := #[.bool t417, .int .i64 0, .int .i64 0, .int .i64 0]) ?_ 1 _ rfl; (with_reducible repeat (first | refine blk_drewN ?_ _ | refine blk_drew ?_ | refine blk_alloc ?_ _)); refine blk_put (cs := #[.bool false, .int .i64 0, .int .i64 0, .int .i64 0]) ?_ 0 _ rfl; (with_reducible repeat (first | refine blk_drewN ?_ _ | refine blk_drew ?_ | refine blk_alloc ?_ _)); exact BK425.out⟩, ⟨by repeat (first | (with_reducible first | exact HB.out | apply below_alloc | apply pw_below_drewN | apply below_drew1 | refine below_set ?_ GE393.out | refine below_set ?_ GE402.out | refine below_set ?_ GE411.out | refine below_set ?_ GE425.out) | exact HB.out)⟩⟩
                · rw [if_neg c60] at H
                  have c60b0 : (t418 == t395) = false := beq_eq_false_iff_ne.mpr c60
                  have c60b1 : (t418 != t395) = true := bne_iff_ne.mpr c60
                  have H' := Aside0.mk H
                  clear H
                  have hnb68 := NB425_393.out
                  have hnc68 := NB393_425.out
                  have hnb69 := NB425_402.out
                  have hnc69 := NB402_425.out
                  have hnb70 := NB425_411.out
                  have hnc70 := NB411_425.out
                  have hcz71_0 : w45.cell? ⟨gb425, 0, none⟩ = some (.bool false) := (blk_cell BK425.out 0).trans rfl
                  have hcz71_1 : w45.cell? ⟨gb425, 1, none⟩ = some (.int .i64 0) := (blk_cell BK425.out 1).trans rfl
                  have hcz71_2 : w45.cell? ⟨gb425, 2, none⟩ = some (.int .i64 0) := (blk_cell BK425.out 2).trans rfl
                  have hcz71_3 : w45.cell? ⟨gb425, 3, none⟩ = some (.int .i64 0) := (blk_cell BK425.out 3).trans rfl
                  have hfz71_0 := blk_frozen BK425.out 0
                  have hfz71_1 := blk_frozen BK425.out 1
                  have hfz71_2 := blk_frozen BK425.out 2
                  have hfz71_3 := blk_frozen BK425.out 3
                  have hnb72 := NB402_393.out
                  have hnc72 := NB393_402.out
                  have hnb73 := NB402_411.out
                  have hnc73 := NB411_402.out
                  have hcz74_0 : w45.cell? ⟨gb402, 0, none⟩ = some (.bool t394) := (blk_cell BK402.out 0).trans rfl
                  have hcz74_1 : w45.cell? ⟨gb402, 1, none⟩ = some (.int .i64 t395) := (blk_cell BK402.out 1).trans rfl
                  have hcz74_2 : w45.cell? ⟨gb402, 2, none⟩ = some (.int .i64 t396) := (blk_cell BK402.out 2).trans rfl
                  have hcz74_3 : w45.cell? ⟨gb402, 3, none⟩ = some (.int .i64 t397) := (blk_cell BK402.out 3).trans rfl
                  have hfz74_0 := blk_frozen BK402.out 0
                  have hfz74_1 := blk_frozen BK402.out 1
                  have hfz74_2 := blk_frozen BK402.out 2
                  have hfz74_3 := blk_frozen BK402.out 3
                  go_wp2
                  go_meet
                  case rel => exact ⟨_, (true), (by first | rfl | (simp; done) | (simp [*]; done)), H', ⟨by have := HJ7.out; first | omega | exact Nat.le_refl _⟩, ⟨by (with_reducible repeat (first | apply Kd.R_alloc | apply Kd.R_drewN | apply Kd.R_drew)); exact Kd.R_mono (Kd.R_far (p := ⟨gb425, 3, none⟩) (Kd.R_far (p := ⟨gb425, 2, none⟩) (Kd.R_far (p := ⟨gb425, 1, none⟩) (Kd.R_far (p := ⟨gb425, 0, none⟩) (Kd.R_types HO400.out BK425.out (by decide)) (fun _ hk => hk.2) (.bool t417)) (fun _ hk => hk.2) (.int .i64 t418)) (fun _ hk => hk.2) (.int .i64 t419)) (fun _ hk => hk.2) (.int .i64 t420)) (fun _ hk => hk.1.1.1.2)⟩, ⟨by (with_reducible repeat (first | apply Kd.R_alloc | apply Kd.R_drewN | apply Kd.R_drew)); exact Kd.R_mono (Kd.R_far (p := ⟨gb425, 3, none⟩) (Kd.R_far (p := ⟨gb425, 2, none⟩) (Kd.R_far (p := ⟨gb425, 1, none⟩) (Kd.R_far (p := ⟨gb425, 0, none⟩) (Kd.R_types HO409.out BK425.out (by decide)) (fun _ hk => hk.2) (.bool t417)) (fun _ hk => hk.2) (.int .i64 t418)) (fun _ hk => hk.2) (.int .i64 t419)) (fun _ hk => hk.2) (.int .i64 t420)) (fun _ hk => hk.1.1.1.2)⟩, ⟨by (with_reducible repeat (first | refine blk_drewN ?_ _ | refine blk_drew ?_ | refine blk_alloc ?_ _)); refine blk_far ?_ NB393_425.out _; (with_reducible repeat (first | refine blk_drewN ?_ _ | refine blk_drew ?_ | refine blk_alloc ?_ _)); refine blk_far ?_ NB393_425.out _; (with_reducible repeat (first | refine blk_drewN ?_ _ | refine blk_drew ?_ | refine blk_alloc ?_ _)); refine blk_far ?_ NB393_425.out _; (with_reducible repeat (first | refine blk_drewN ?_ _ | refine blk_drew ?_ | refine blk_alloc ?_ _)); refine blk_far ?_ NB393_425.out _; (with_reducible repeat (first | refine blk_drewN ?_ _ | refine blk_drew ?_ | refine blk_alloc ?_ _)); exact BK393.out⟩, ⟨by (with_reducible repeat (first | refine blk_drewN ?_ _ | refine blk_drew ?_ | refine blk_alloc ?_ _)); refine blk_far ?_ NB402_425.out _; (with_reducible repeat (first | refine blk_drewN ?_ _ | refine blk_drew ?_ | refine blk_alloc ?_ _)); refine blk_far ?_ NB402_425.out _; (with_reducible repeat (first | refine blk_drewN ?_ _ | refine blk_drew ?_ | refine blk_alloc ?_ _)); refine blk_far ?_ NB402_425.out _; (with_reducible repeat (first | refine blk_drewN ?_ _ | refine blk_drew ?_ | refine blk_alloc ?_ _)); refine blk_far ?_ NB402_425.out _; (with_reducible repeat (first | refine blk_drewN ?_ _ | refine blk_drew ?_ | refine blk_alloc ?_ _)); exact BK402.out⟩, ⟨by (with_reducible repeat (first | refine blk_drewN ?_ _ | refine blk_drew ?_ | refine blk_alloc ?_ _)); refine blk_far ?_ NB411_425.out _; (with_reducible repeat (first | refine blk_drewN ?_ _ | refine blk_drew ?_ | refine blk_alloc ?_ _)); refine blk_far ?_ NB411_425.out _; (with_reducible repeat (first | refine blk_drewN ?_ _ | refine blk_drew ?_ | refine blk_alloc ?_ _)); refine blk_far ?_ NB411_425.out _; (with_reducible repeat (first | refine blk_drewN ?_ _ | refine blk_drew ?_ | refine blk_alloc ?_ _)); refine blk_far ?_ NB411_425.out _; (with_reducible repeat (first | refine blk_drewN ?_ _ | refine blk_drew ?_ | refine blk_alloc ?_ _)); exact BK411.out⟩, ⟨by (with_reducible repeat (first | refine blk_drewN ?_ _ | refine blk_drew ?_ | refine blk_alloc ?_ _)); refine blk_put (cs := #[.bool t417, .int .i64 t418, .int .i64 t419, .int .i64 0]) ?_ 3 _ rfl; (with_reducible repeat (first | refine blk_drewN ?_ _ | refine blk_drew ?_ | refine blk_alloc ?_ _)); refine blk_put (cs := #[.bool t417, .int .i64 t418, .int .i64 0, .int .i64 0]) ?_ 2 _ rfl; (with_reducible repeat (first | refine blk_drewN ?_ _ | refine blk_drew ?_ | refine blk_alloc ?_ _)); refine blk_put (cs := #[.bool t417, .int .i64 0, .int .i64 0, .int .i64 0]) ?_ 1 _ rfl; (with_reducible repeat (first | refine blk_drewN ?_ _ | refine blk_drew ?_ | refine blk_alloc ?_ _)); refine blk_put (cs := #[.bool false, .int .i64 0, .int .i64 0, .int .i64 0]) ?_ 0 _ rfl; (with_reducible repeat (first | refine blk_drewN ?_ _ | refine blk_drew ?_ | refine blk_alloc ?_ _)); exact BK425.out⟩, ⟨by repeat (first | (with_reducible first | exact HB.out | apply below_alloc | apply pw_below_drewN | apply below_drew1 | refine below_set ?_ GE393.out | refine below_set ?_ GE402.out | refine below_set ?_ GE411.out | refine below_set ?_ GE425.out) | exact HB.out)⟩⟩
            · rw [if_neg c51] at H
              have c51b0 : (t424 == 5) = false := beq_eq_false_iff_ne.mpr c51
              have c51b1 : (t424 != 5) = true := bne_iff_ne.mpr c51
              (first | rw [c51b0] | (simp only [i64_w, i32_w]; rw [c51b0]) | skip)
              have H' := Aside0.mk H
              clear H
              go_wp2
              go_meet
              case rel => exact ⟨_, (true), (by first | rfl | (simp; done) | (simp [*]; done)), H', ⟨by have := HJ7.out; first | omega | exact Nat.le_refl _⟩, ⟨by (with_reducible repeat (first | apply Kd.R_alloc | apply Kd.R_drewN | apply Kd.R_drew)); exact Kd.R_mono (Kd.R_far (p := ⟨gb425, 3, none⟩) (Kd.R_far (p := ⟨gb425, 2, none⟩) (Kd.R_far (p := ⟨gb425, 1, none⟩) (Kd.R_far (p := ⟨gb425, 0, none⟩) (Kd.R_types HO400.out BK425.out (by decide)) (fun _ hk => hk.2) (.bool t417)) (fun _ hk => hk.2) (.int .i64 t418)) (fun _ hk => hk.2) (.int .i64 t419)) (fun _ hk => hk.2) (.int .i64 t420)) (fun _ hk => hk.1.1.1.2)⟩, ⟨by (with_reducible repeat (first | apply Kd.R_alloc | apply Kd.R_drewN | apply Kd.R_drew)); exact Kd.R_mono (Kd.R_far (p := ⟨gb425, 3, none⟩) (Kd.R_far (p := ⟨gb425, 2, none⟩) (Kd.R_far (p := ⟨gb425, 1, none⟩) (Kd.R_far (p := ⟨gb425, 0, none⟩) (Kd.R_types HO409.out BK425.out (by decide)) (fun _ hk => hk.2) (.bool t417)) (fun _ hk => hk.2) (.int .i64 t418)) (fun _ hk => hk.2) (.int .i64 t419)) (fun _ hk => hk.2) (.int .i64 t420)) (fun _ hk => hk.1.1.1.2)⟩, ⟨by (with_reducible repeat (first | refine blk_drewN ?_ _ | refine blk_drew ?_ | refine blk_alloc ?_ _)); refine blk_far ?_ NB393_425.out _; (with_reducible repeat (first | refine blk_drewN ?_ _ | refine blk_drew ?_ | refine blk_alloc ?_ _)); refine blk_far ?_ NB393_425.out _; (with_reducible repeat (first | refine blk_drewN ?_ _ | refine blk_drew ?_ | refine blk_alloc ?_ _)); refine blk_far ?_ NB393_425.out _; (with_reducible repeat (first | refine blk_drewN ?_ _ | refine blk_drew ?_ | refine blk_alloc ?_ _)); refine blk_far ?_ NB393_425.out _; (with_reducible repeat (first | refine blk_drewN ?_ _ | refine blk_drew ?_ | refine blk_alloc ?_ _)); exact BK393.out⟩, ⟨by (with_reducible repeat (first | refine blk_drewN ?_ _ | refine blk_drew ?_ | refine blk_alloc ?_ _)); refine blk_far ?_ NB402_425.out _; (with_reducible repeat (first | refine blk_drewN ?_ _ | refine blk_drew ?_ | refine blk_alloc ?_ _)); refine blk_far ?_ NB402_425.out _; (with_reducible repeat (first | refine blk_drewN ?_ _ | refine blk_drew ?_ | refine blk_alloc ?_ _)); refine blk_far ?_ NB402_425.out _; (with_reducible repeat (first | refine blk_drewN ?_ _ | refine blk_drew ?_ | refine blk_alloc ?_ _)); refine blk_far ?_ NB402_425.out _; (with_reducible repeat (first | refine blk_drewN ?_ _ | refine blk_drew ?_ | refine blk_alloc ?_ _)); exact BK402.out⟩, ⟨by (with_reducible repeat (first | refine blk_drewN ?_ _ | refine blk_drew ?_ | refine blk_alloc ?_ _)); refine blk_far ?_ NB411_425.out _; (with_reducible repeat (first | refine blk_drewN ?_ _ | refine blk_drew ?_ | refine blk_alloc ?_ _)); refine blk_far ?_ NB411_425.out _; (with_reducible repeat (first | refine blk_drewN ?_ _ | refine blk_drew ?_ | refine blk_alloc ?_ _)); refine blk_far ?_ NB411_425.out _; (with_reducible repeat (first | refine blk_drewN ?_ _ | refine blk_drew ?_ | refine blk_alloc ?_ _)); refine blk_far ?_ NB411_425.out _; (with_reducible repeat (first | refine blk_drewN ?_ _ | refine blk_drew ?_ | refine blk_alloc ?_ _)); exact BK411.out⟩, ⟨by (with_reducible repeat (first | refine blk_drewN ?_ _ | refine blk_drew ?_ | refine blk_alloc ?_ _)); refine blk_put (cs := #[.bool t417, .int .i64 t418, .int .i64 t419, .int .i64 0]) ?_ 3 _ rfl; (with_reducible repeat (first | refine blk_drewN ?_ _ | refine blk_drew ?_ | refine blk_alloc ?_ _)); refine blk_put (cs := #[.bool t417, .int .i64 t418, .int .i64 0, .int .i64 0]) ?_ 2 _ rfl; (with_reducible repeat (first | refine blk_drewN ?_ _ | refine blk_drew ?_ | refine blk_alloc ?_ _)); refine blk_put (cs := #[.bool t417, .int .i64 0, .int .i64 0, .int .i64 0]) ?_ 1 _ rfl; (with_reducible repeat (first | refine blk_drewN ?_ _ | refine blk_drew ?_ | refine blk_alloc ?_ _)); refine blk_put (cs := #[.bool false, .int .i64 0, .int .i64 0, .int .i64 0]) ?_ 0 _ rfl; (with_reducible repeat (first | refine blk_drewN ?_ _ | refine blk_drew ?_ | refine blk_alloc ?_ _)); exact BK425.out⟩, ⟨by repeat (first | (with_reducible first | exact HB.out | apply below_alloc | apply pw_below_drewN | apply below_drew1 | refine below_set ?_ GE393.out | refine below_set ?_ GE402.out | refine below_set ?_ GE411.out | refine below_set ?_ GE425.out) | exact HB.out)⟩⟩
        case rest => as_aux_lemma =>
          clear HC22
          try clear c1
          try clear p2
          try clear c3
          try clear c4
          try clear c5
          try clear c6
          try clear p6
          try clear c7
          try clear c8
          try clear c10
          try clear c10b0
          try clear c10b1
          try clear c11
          try clear c12
          try clear c13
          try clear c16
          try clear c19
          try clear c34
          try clear c39
          try clear c40
          try clear c46
          try clear c47
          try clear c48
          try clear c50
          try clear c51
          try clear c51b0
          try clear c51b1
          try clear c52
          try clear c52b0
          try clear c52b1
          try clear c52b2
          try clear c53
          try clear c54
          try clear c55
          try clear c57
          try clear c58
          try clear c60
          try clear c60b0
          try clear c60b1
          try clear c61
          try clear c62
          try clear c63
          try clear p64
          try clear c65
          try clear c66
          try clear c68
          try clear c69
          try clear c70
          try clear c72
          try clear c73
          try clear hcz30_0
          try clear hcz30_1
          try clear hcz30_2
          try clear hcz30_3
          try clear hcz35_0
          try clear hcz35_1
          try clear hcz35_2
          try clear hcz35_3
          try clear hcz41_0
          try clear hcz41_1
          try clear hcz41_2
          try clear hcz41_3
          try clear hcz43_0
          try clear hcz43_1
          try clear hcz43_2
          try clear hcz43_3
          try clear hcz49_0
          try clear hcz49_1
          try clear hcz49_2
          try clear hcz49_3
          try clear hcz56_0
          try clear hcz56_1
          try clear hcz56_2
          try clear hcz56_3
          try clear hcz59_0
          try clear hcz59_1
          try clear hcz59_2
          try clear hcz59_3
          try clear hcz64_0
          try clear hcz64_1
          try clear hcz64_2
          try clear hcz64_3
          try clear hcz67_0
          try clear hcz67_1
          try clear hcz67_2
          try clear hcz67_3
          try clear hcz71_0
          try clear hcz71_1
          try clear hcz71_2
          try clear hcz71_3
          try clear hcz74_0
          try clear hcz74_1
          try clear hcz74_2
          try clear hcz74_3
          try clear hfz30_0
          try clear hfz30_1
          try clear hfz30_2
          try clear hfz30_3
          try clear hfz35_0
          try clear hfz35_1
          try clear hfz35_2
          try clear hfz35_3
          try clear hfz41_0
          try clear hfz41_1
          try clear hfz41_2
          try clear hfz41_3
          try clear hfz43_0
          try clear hfz43_1
          try clear hfz43_2
          try clear hfz43_3
          try clear hfz49_0
          try clear hfz49_1
          try clear hfz49_2
          try clear hfz49_3
          try clear hfz56_0
          try clear hfz56_1
          try clear hfz56_2
          try clear hfz56_3
          try clear hfz59_0
          try clear hfz59_1
          try clear hfz59_2
          try clear hfz59_3
          try clear hfz64_0
          try clear hfz64_1
          try clear hfz64_2
          try clear hfz64_3
          try clear hfz67_0
          try clear hfz67_1
          try clear hfz67_2
          try clear hfz67_3
          try clear hfz71_0
          try clear hfz71_1
          try clear hfz71_2
          try clear hfz71_3
          try clear hfz74_0
          try clear hfz74_1
          try clear hfz74_2
          try clear hfz74_3
          try clear p2
          obtain ⟨kq, x165_21, rfl, HA, HJ21, HO_27, HO_30, BK393, BK402, BK411, BK425, HB⟩ := hcut
          cases kq with
          | zero => exact absurd HA.out (by simp [phaetonlaw16_TrustStale.j1])
          | succ kj21 =>
            have H := HA.out
            clear HA
            simp only [phaetonlaw16_TrustStale.j1] at H
            by_cases c75 : x165_21 = true
            · subst c75
              have H1 : (none) = some r := by rw [if_pos rfl] at H; exact H
              clear H
              have H := H1
              clear H1
              exact absurd H (by simp)
            · replace c75 := Bool.eq_false_iff.mpr c75
              subst c75
              have H1 : (if (wrap64 ((Int.tmod (wrap64 (a2)) 14) + 1)) > (wrap64 ((Int.tmod (wrap64 (a5)) 14) + 1)) then (if (wrap64 ((Int.tmod (wrap64 (a2)) 14) + 1)) > 1 then (if t401 = 6 then (if (t398.length : Int) = 0 then (if (wrap64 ((Int.tmod (wrap64 (a2)) 14) + 1)) ≤ (wrap64 ((Int.tmod (wrap64 (a5)) 14) + 1)) then (if t401 = 4 then ((phaetonref01_SameBytes.f t398 l3).bind fun t426 => (if t426 = true then (if (wrap64 ((Int.tmod (wrap64 (a2)) 14) + 1)) = 1 then (if t401 = 1 then (if t368 = true then (if t410 = 1 then ((phaetonref01_SameBytes.f t407 l3).bind fun t427 => (if t427 = true then (some true) else (none))) else (none)) else (none)) else (none)) else (if t368 = true then (if t410 = 1 then ((phaetonref01_SameBytes.f t407 l3).bind fun t428 => (if t428 = true then (some true) else (none))) else (none)) else (none))) else (none))) else (none)) else (if (wrap64 ((Int.tmod (wrap64 (a2)) 14) + 1)) = 1 then (if t401 = 1 then (if t368 = true then (if t410 = 1 then ((phaetonref01_SameBytes.f t407 l3).bind fun t429 => (if t429 = true then (some true) else (none))) else (none)) else (none)) else (none)) else (if t368 = true then (if t410 = 1 then ((phaetonref01_SameBytes.f t407 l3).bind fun t430 => (if t430 = true then (some true) else (none))) else (none)) else (none)))) else (none)) else (none)) else (if (wrap64 ((Int.tmod (wrap64 (a2)) 14) + 1)) ≤ (wrap64 ((Int.tmod (wrap64 (a5)) 14) + 1)) then (if (wrap64 ((Int.tmod (wrap64 (a2)) 14) + 1)) = 1 then (if t401 = 1 then (if t368 = true then (if t410 = 1 then ((phaetonref01_SameBytes.f t407 l3).bind fun t431 => (if t431 = true then (some true) else (none))) else (none)) else (none)) else (none)) else (if t368 = true then (if t410 = 1 then ((phaetonref01_SameBytes.f t407 l3).bind fun t432 => (if t432 = true then (some true) else (none))) else (none)) else (none))) else (if (wrap64 ((Int.tmod (wrap64 (a2)) 14) + 1)) = 1 then (if t401 = 1 then (if t368 = true then (if t410 = 1 then ((phaetonref01_SameBytes.f t407 l3).bind fun t433 => (if t433 = true then (some true) else (none))) else (none)) else (none)) else (none)) else (if t368 = true then (if t410 = 1 then ((phaetonref01_SameBytes.f t407 l3).bind fun t434 => (if t434 = true then (some true) else (none))) else (none)) else (none))))) else (if (wrap64 ((Int.tmod (wrap64 (a2)) 14) + 1)) ≤ (wrap64 ((Int.tmod (wrap64 (a5)) 14) + 1)) then (if (wrap64 ((Int.tmod (wrap64 (a2)) 14) + 1)) > 1 then (if t401 = 4 then ((phaetonref01_SameBytes.f t398 l3).bind fun t435 => (if t435 = true then (if (wrap64 ((Int.tmod (wrap64 (a2)) 14) + 1)) = 1 then (if t401 = 1 then (if t368 = true then (if t410 = 1 then ((phaetonref01_SameBytes.f t407 l3).bind fun t436 => (if t436 = true then (some true) else (none))) else (none)) else (none)) else (none)) else (if t368 = true then (if t410 = 1 then ((phaetonref01_SameBytes.f t407 l3).bind fun t437 => (if t437 = true then (some true) else (none))) else (none)) else (none))) else (none))) else (none)) else (if (wrap64 ((Int.tmod (wrap64 (a2)) 14) + 1)) = 1 then (if t401 = 1 then (if t368 = true then (if t410 = 1 then ((phaetonref01_SameBytes.f t407 l3).bind fun t438 => (if t438 = true then (some true) else (none))) else (none)) else (none)) else (none)) else (if t368 = true then (if t410 = 1 then ((phaetonref01_SameBytes.f t407 l3).bind fun t439 => (if t439 = true then (some true) else (none))) else (none)) else (none)))) else (if (wrap64 ((Int.tmod (wrap64 (a2)) 14) + 1)) = 1 then (if t401 = 1 then (if t368 = true then (if t410 = 1 then ((phaetonref01_SameBytes.f t407 l3).bind fun t440 => (if t440 = true then (some true) else (none))) else (none)) else (none)) else (none)) else (if t368 = true then (if t410 = 1 then ((phaetonref01_SameBytes.f t407 l3).bind fun t441 => (if t441 = true then (some true) else (none))) else (none)) else (none))))) = some r := by rw [if_neg (show ¬ (false = true) by decide)] at H; exact H
              clear H
              have H := H1
              clear H1
              by_cases c76 : (wrap64 ((Int.tmod (wrap64 (a2)) 14) + 1)) > (wrap64 ((Int.tmod (wrap64 (a5)) 14) + 1))
              · rw [if_pos c76] at H
                have c76b0 : decide ((wrap64 ((Int.tmod (wrap64 (a5)) 14) + 1)) < (wrap64 ((Int.tmod (wrap64 (a2)) 14) + 1))) = true := decide_eq_true c76
                clear c76
                by_cases c77 : (wrap64 ((Int.tmod (wrap64 (a2)) 14) + 1)) > 1
                · rw [if_pos c77] at H
                  have c77b0 : decide (1 < (wrap64 ((Int.tmod (wrap64 (a2)) 14) + 1))) = true := decide_eq_true c77
                  clear c77
                  by_cases c78 : t401 = 6
                  · rw [if_pos c78] at H
                    have c78b0 : (t401 == 6) = true := beq_iff_eq.mpr c78
                    have c78b1 : (t401 != 6) = false := bne_eq_false_iff_eq.mpr c78
                    clear c78
                    by_cases c79 : (t398.length : Int) = 0
                    · rw [if_pos c79] at H
                      have c79b0 : ((t398.length : Int) == 0) = true := beq_iff_eq.mpr c79
                      have c79b1 : ((t398.length : Int) != 0) = false := bne_eq_false_iff_eq.mpr c79
                      clear c79
                      by_cases c80 : (wrap64 ((Int.tmod (wrap64 (a2)) 14) + 1)) ≤ (wrap64 ((Int.tmod (wrap64 (a5)) 14) + 1))
                      · exfalso; (try simp only [decide_eq_true_eq, decide_eq_false_iff_not, beq_iff_eq, beq_eq_false_iff_ne, ne_eq] at c76b0); omega
                      · rw [if_neg c80] at H
                        have c80b0 : decide ((wrap64 ((Int.tmod (wrap64 (a2)) 14) + 1)) ≤ (wrap64 ((Int.tmod (wrap64 (a5)) 14) + 1))) = false := decide_eq_false c80
                        clear c80
                        by_cases c98 : (wrap64 ((Int.tmod (wrap64 (a2)) 14) + 1)) = 1
                        · exfalso; (try simp only [decide_eq_true_eq, decide_eq_false_iff_not, beq_iff_eq, beq_eq_false_iff_ne, ne_eq] at c77b0); omega
                        · rw [if_neg c98] at H
                          have c98b0 : ((wrap64 ((Int.tmod (wrap64 (a2)) 14) + 1)) == 1) = false := beq_eq_false_iff_ne.mpr c98
                          have c98b1 : ((wrap64 ((Int.tmod (wrap64 (a2)) 14) + 1)) != 1) = true := bne_iff_ne.mpr c98
                          by_cases c106 : t368 = true
                          · subst c106
                            have H1 : (if t410 = 1 then ((phaetonref01_SameBytes.f t407 l3).bind fun t430 => (if t430 = true then (some true) else (none))) else (none)) = some r := by rw [if_pos rfl] at H; exact H
                            clear H
                            have H := H1
                            clear H1
                            by_cases c107 : t410 = 1
                            · rw [if_pos c107] at H
                              have c107b0 : (t410 == 1) = true := beq_iff_eq.mpr c107
                              have c107b1 : (t410 != 1) = false := bne_eq_false_iff_eq.mpr c107
                              clear c107
                              replace H := Option.bind_eq_some_iff.mp H
                              obtain ⟨t430, A1080, H⟩ := H
                              replace H : (if t430 = true then (some true) else (none)) = some r := H
                              have A108 := Aside0.mk A1080
                              clear A1080
                              by_cases c109 : t430 = true
                              · subst c109
                                have H1 : (some true) = some r := by rw [if_pos rfl] at H; exact H
                                clear H
                                have H := H1
                                clear H1
                                obtain rfl := Option.some.inj H
                                obtain ⟨Ao110, co110, eo110⟩ := Kd.R_slice HO_27.out
                                subst eo110
                                obtain ⟨Ao111, co111, eo111⟩ := Kd.R_slice HO_30.out
                                subst eo111
                                go_wp2_with (first | (go_at_call 15; (with_reducible refine (phaetonref01_SameBytes.calls _ _ t407 _ _ l3 true _ ?side1 ?side2 ?side3 ?side4 A108.out).mono ?_); (case side1 => repeat (first | exact (Kd.R_reads' HO_30.out).2.2 | (with_reducible refine Kd.C_alloc ?_ _) | (with_reducible refine Kd.C_drewN ?_ _) | (with_reducible refine Kd.C_drew ?_))); (case side2 => exact (Kd.R_reads' HO_30.out).2.1); (case side3 => repeat (first | exact (Kd.C_below HR3.out HB.out) | (with_reducible refine Kd.C_alloc ?_ _) | (with_reducible refine Kd.C_drewN ?_ _) | (with_reducible refine Kd.C_drew ?_))); (case side4 => exact HC3.out); rintro e w' ⟨rfl, ⟨nd, rfl⟩⟩))
                                go_ret
                                exact ⟨by first | rfl | (simp [errW_none, errW_some] <;> rfl) | (simp [*, errW_none, errW_some] <;> rfl), by repeat (first | (with_reducible first | exact HB.out | apply below_alloc | apply pw_below_drewN | apply below_drew1 | refine below_set ?_ GE393.out | refine below_set ?_ GE402.out | refine below_set ?_ GE411.out | refine below_set ?_ GE425.out) | exact HB.out)⟩
                              · replace c109 := Bool.eq_false_iff.mpr c109
                                subst c109
                                have H1 : (none) = some r := by rw [if_neg (show ¬ (false = true) by decide)] at H; exact H
                                clear H
                                have H := H1
                                clear H1
                                exact absurd H (by simp)
                            · rw [if_neg c107] at H
                              exact absurd H (by simp)
                          · replace c106 := Bool.eq_false_iff.mpr c106
                            subst c106
                            have H1 : (none) = some r := by rw [if_neg (show ¬ (false = true) by decide)] at H; exact H
                            clear H
                            have H := H1
                            clear H1
                            exact absurd H (by simp)
                    · rw [if_neg c79] at H
                      exact absurd H (by simp)
                  · rw [if_neg c78] at H
                    exact absurd H (by simp)
                · rw [if_neg c77] at H
                  have c77b0 : decide (1 < (wrap64 ((Int.tmod (wrap64 (a2)) 14) + 1))) = false := decide_eq_false c77
                  clear c77
                  by_cases c112 : (wrap64 ((Int.tmod (wrap64 (a2)) 14) + 1)) ≤ (wrap64 ((Int.tmod (wrap64 (a5)) 14) + 1))
                  · exfalso; (try simp only [decide_eq_true_eq, decide_eq_false_iff_not, beq_iff_eq, beq_eq_false_iff_ne, ne_eq] at c76b0); omega
                  · rw [if_neg c112] at H
                    have c112b0 : decide ((wrap64 ((Int.tmod (wrap64 (a2)) 14) + 1)) ≤ (wrap64 ((Int.tmod (wrap64 (a5)) 14) + 1))) = false := decide_eq_false c112
                    clear c112
                    by_cases c125 : (wrap64 ((Int.tmod (wrap64 (a2)) 14) + 1)) = 1
                    · rw [if_pos c125] at H
                      have c125b0 : ((wrap64 ((Int.tmod (wrap64 (a2)) 14) + 1)) == 1) = true := beq_iff_eq.mpr c125
                      have c125b1 : ((wrap64 ((Int.tmod (wrap64 (a2)) 14) + 1)) != 1) = false := bne_eq_false_iff_eq.mpr c125
                      clear c125
                      by_cases c126 : t401 = 1
                      · rw [if_pos c126] at H
                        have c126b0 : (t401 == 1) = true := beq_iff_eq.mpr c126
                        have c126b1 : (t401 != 1) = false := bne_eq_false_iff_eq.mpr c126
                        clear c126
                        by_cases c127 : t368 = true
                        · subst c127
                          have H1 : (if t410 = 1 then ((phaetonref01_SameBytes.f t407 l3).bind fun t433 => (if t433 = true then (some true) else (none))) else (none)) = some r := by rw [if_pos rfl] at H; exact H
                          clear H
                          have H := H1
                          clear H1
                          by_cases c128 : t410 = 1
                          · rw [if_pos c128] at H
                            have c128b0 : (t410 == 1) = true := beq_iff_eq.mpr c128
                            have c128b1 : (t410 != 1) = false := bne_eq_false_iff_eq.mpr c128
                            clear c128
                            replace H := Option.bind_eq_some_iff.mp H
                            obtain ⟨t433, A1290, H⟩ := H
                            replace H : (if t433 = true then (some true) else (none)) = some r := H
                            have A129 := Aside0.mk A1290
                            clear A1290
                            by_cases c130 : t433 = true
                            · subst c130
                              have H1 : (some true) = some r := by rw [if_pos rfl] at H; exact H
                              clear H
                              have H := H1
                              clear H1
                              obtain rfl := Option.some.inj H
                              obtain ⟨Ao131, co131, eo131⟩ := Kd.R_slice HO_30.out
                              subst eo131
                              go_wp2_with (first | (go_at_call 15; (with_reducible refine (phaetonref01_SameBytes.calls _ _ t407 _ _ l3 true _ ?side1 ?side2 ?side3 ?side4 A129.out).mono ?_); (case side1 => repeat (first | exact (Kd.R_reads' HO_30.out).2.2 | (with_reducible refine Kd.C_alloc ?_ _) | (with_reducible refine Kd.C_drewN ?_ _) | (with_reducible refine Kd.C_drew ?_))); (case side2 => exact (Kd.R_reads' HO_30.out).2.1); (case side3 => repeat (first | exact (Kd.C_below HR3.out HB.out) | (with_reducible refine Kd.C_alloc ?_ _) | (with_reducible refine Kd.C_drewN ?_ _) | (with_reducible refine Kd.C_drew ?_))); (case side4 => exact HC3.out); rintro e w' ⟨rfl, ⟨nd, rfl⟩⟩))
                              go_ret
                              exact ⟨by first | rfl | (simp [errW_none, errW_some] <;> rfl) | (simp [*, errW_none, errW_some] <;> rfl), by repeat (first | (with_reducible first | exact HB.out | apply below_alloc | apply pw_below_drewN | apply below_drew1 | refine below_set ?_ GE393.out | refine below_set ?_ GE402.out | refine below_set ?_ GE411.out | refine below_set ?_ GE425.out) | exact HB.out)⟩
                            · replace c130 := Bool.eq_false_iff.mpr c130
                              subst c130
                              have H1 : (none) = some r := by rw [if_neg (show ¬ (false = true) by decide)] at H; exact H
                              clear H
                              have H := H1
                              clear H1
                              exact absurd H (by simp)
                          · rw [if_neg c128] at H
                            exact absurd H (by simp)
                        · replace c127 := Bool.eq_false_iff.mpr c127
                          subst c127
                          have H1 : (none) = some r := by rw [if_neg (show ¬ (false = true) by decide)] at H; exact H
                          clear H
                          have H := H1
                          clear H1
                          exact absurd H (by simp)
                      · rw [if_neg c126] at H
                        exact absurd H (by simp)
                    · rw [if_neg c125] at H
                      have c125b0 : ((wrap64 ((Int.tmod (wrap64 (a2)) 14) + 1)) == 1) = false := beq_eq_false_iff_ne.mpr c125
                      have c125b1 : ((wrap64 ((Int.tmod (wrap64 (a2)) 14) + 1)) != 1) = true := bne_iff_ne.mpr c125
                      by_cases c132 : t368 = true
                      · subst c132
                        have H1 : (if t410 = 1 then ((phaetonref01_SameBytes.f t407 l3).bind fun t434 => (if t434 = true then (some true) else (none))) else (none)) = some r := by rw [if_pos rfl] at H; exact H
                        clear H
                        have H := H1
                        clear H1
                        by_cases c133 : t410 = 1
                        · rw [if_pos c133] at H
                          have c133b0 : (t410 == 1) = true := beq_iff_eq.mpr c133
                          have c133b1 : (t410 != 1) = false := bne_eq_false_iff_eq.mpr c133
                          clear c133
                          replace H := Option.bind_eq_some_iff.mp H
                          obtain ⟨t434, A1340, H⟩ := H
                          replace H : (if t434 = true then (some true) else (none)) = some r := H
                          have A134 := Aside0.mk A1340
                          clear A1340
                          by_cases c135 : t434 = true
                          · subst c135
                            have H1 : (some true) = some r := by rw [if_pos rfl] at H; exact H
                            clear H
                            have H := H1
                            clear H1
                            obtain rfl := Option.some.inj H
                            obtain ⟨Ao136, co136, eo136⟩ := Kd.R_slice HO_30.out
                            subst eo136
                            go_wp2_with (first | (go_at_call 15; (with_reducible refine (phaetonref01_SameBytes.calls _ _ t407 _ _ l3 true _ ?side1 ?side2 ?side3 ?side4 A134.out).mono ?_); (case side1 => repeat (first | exact (Kd.R_reads' HO_30.out).2.2 | (with_reducible refine Kd.C_alloc ?_ _) | (with_reducible refine Kd.C_drewN ?_ _) | (with_reducible refine Kd.C_drew ?_))); (case side2 => exact (Kd.R_reads' HO_30.out).2.1); (case side3 => repeat (first | exact (Kd.C_below HR3.out HB.out) | (with_reducible refine Kd.C_alloc ?_ _) | (with_reducible refine Kd.C_drewN ?_ _) | (with_reducible refine Kd.C_drew ?_))); (case side4 => exact HC3.out); rintro e w' ⟨rfl, ⟨nd, rfl⟩⟩))
                            go_ret
                            exact ⟨by first | rfl | (simp [errW_none, errW_some] <;> rfl) | (simp [*, errW_none, errW_some] <;> rfl), by repeat (first | (with_reducible first | exact HB.out | apply below_alloc | apply pw_below_drewN | apply below_drew1 | refine below_set ?_ GE393.out | refine below_set ?_ GE402.out | refine below_set ?_ GE411.out | refine below_set ?_ GE425.out) | exact HB.out)⟩
                          · replace c135 := Bool.eq_false_iff.mpr c135
                            subst c135
                            have H1 : (none) = some r := by rw [if_neg (show ¬ (false = true) by decide)] at H; exact H
                            clear H
                            have H := H1
                            clear H1
                            exact absurd H (by simp)
                        · rw [if_neg c133] at H
                          exact absurd H (by simp)
                      · replace c132 := Bool.eq_false_iff.mpr c132
                        subst c132
                        have H1 : (none) = some r := by rw [if_neg (show ¬ (false = true) by decide)] at H; exact H
                        clear H
                        have H := H1
                        clear H1
                        exact absurd H (by simp)
              · rw [if_neg c76] at H
                have c76b0 : decide ((wrap64 ((Int.tmod (wrap64 (a5)) 14) + 1)) < (wrap64 ((Int.tmod (wrap64 (a2)) 14) + 1))) = false := decide_eq_false c76
                clear c76
                by_cases c137 : (wrap64 ((Int.tmod (wrap64 (a2)) 14) + 1)) ≤ (wrap64 ((Int.tmod (wrap64 (a5)) 14) + 1))
                · rw [if_pos c137] at H
                  have c137b0 : decide ((wrap64 ((Int.tmod (wrap64 (a2)) 14) + 1)) ≤ (wrap64 ((Int.tmod (wrap64 (a5)) 14) + 1))) = true := decide_eq_true c137
                  clear c137
                  by_cases c138 : (wrap64 ((Int.tmod (wrap64 (a2)) 14) + 1)) > 1
                  · rw [if_pos c138] at H
                    have c138b0 : decide (1 < (wrap64 ((Int.tmod (wrap64 (a2)) 14) + 1))) = true := decide_eq_true c138
                    clear c138
                    by_cases c139 : t401 = 4
                    · rw [if_pos c139] at H
                      have c139b0 : (t401 == 4) = true := beq_iff_eq.mpr c139
                      have c139b1 : (t401 != 4) = false := bne_eq_false_iff_eq.mpr c139
                      clear c139
                      replace H := Option.bind_eq_some_iff.mp H
                      obtain ⟨t435, A1400, H⟩ := H
                      replace H : (if t435 = true then (if (wrap64 ((Int.tmod (wrap64 (a2)) 14) + 1)) = 1 then (if t401 = 1 then (if t368 = true then (if t410 = 1 then ((phaetonref01_SameBytes.f t407 l3).bind fun t436 => (if t436 = true then (some true) else (none))) else (none)) else (none)) else (none)) else (if t368 = true then (if t410 = 1 then ((phaetonref01_SameBytes.f t407 l3).bind fun t437 => (if t437 = true then (some true) else (none))) else (none)) else (none))) else (none)) = some r := H
                      have A140 := Aside0.mk A1400
                      clear A1400
                      by_cases c141 : t435 = true
                      · subst c141
                        have H1 : (if (wrap64 ((Int.tmod (wrap64 (a2)) 14) + 1)) = 1 then (if t401 = 1 then (if t368 = true then (if t410 = 1 then ((phaetonref01_SameBytes.f t407 l3).bind fun t436 => (if t436 = true then (some true) else (none))) else (none)) else (none)) else (none)) else (if t368 = true then (if t410 = 1 then ((phaetonref01_SameBytes.f t407 l3).bind fun t437 => (if t437 = true then (some true) else (none))) else (none)) else (none))) = some r := by rw [if_pos rfl] at H; exact H
                        clear H
                        have H := H1
                        clear H1
                        by_cases c142 : (wrap64 ((Int.tmod (wrap64 (a2)) 14) + 1)) = 1
                        · exfalso; (try simp only [decide_eq_true_eq, decide_eq_false_iff_not, beq_iff_eq, beq_eq_false_iff_ne, ne_eq] at c138b0); omega
                        · rw [if_neg c142] at H
                          have c142b0 : ((wrap64 ((Int.tmod (wrap64 (a2)) 14) + 1)) == 1) = false := beq_eq_false_iff_ne.mpr c142
                          have c142b1 : ((wrap64 ((Int.tmod (wrap64 (a2)) 14) + 1)) != 1) = true := bne_iff_ne.mpr c142
                          by_cases c150 : t368 = true
                          · subst c150
                            have H1 : (if t410 = 1 then ((phaetonref01_SameBytes.f t407 l3).bind fun t437 => (if t437 = true then (some true) else (none))) else (none)) = some r := by rw [if_pos rfl] at H; exact H
                            clear H
                            have H := H1
                            clear H1
                            by_cases c151 : t410 = 1
                            · rw [if_pos c151] at H
                              have c151b0 : (t410 == 1) = true := beq_iff_eq.mpr c151
                              have c151b1 : (t410 != 1) = false := bne_eq_false_iff_eq.mpr c151
                              clear c151
                              replace H := Option.bind_eq_some_iff.mp H
                              obtain ⟨t437, A1520, H⟩ := H
                              replace H : (if t437 = true then (some true) else (none)) = some r := H
                              have A152 := Aside0.mk A1520
                              clear A1520
                              by_cases c153 : t437 = true
                              · subst c153
                                have H1 : (some true) = some r := by rw [if_pos rfl] at H; exact H
                                clear H
                                have H := H1
                                clear H1
                                obtain rfl := Option.some.inj H
                                obtain ⟨Ao154, co154, eo154⟩ := Kd.R_slice HO_27.out
                                subst eo154
                                go_wp2_with (first | (go_at_call 15; (with_reducible refine (phaetonref01_SameBytes.calls _ _ t398 _ _ l3 true _ ?side1 ?side2 ?side3 ?side4 A140.out).mono ?_); (case side1 => repeat (first | exact (Kd.R_reads' HO_27.out).2.2 | (with_reducible refine Kd.C_alloc ?_ _) | (with_reducible refine Kd.C_drewN ?_ _) | (with_reducible refine Kd.C_drew ?_))); (case side2 => exact (Kd.R_reads' HO_27.out).2.1); (case side3 => repeat (first | exact (Kd.C_below HR3.out HB.out) | (with_reducible refine Kd.C_alloc ?_ _) | (with_reducible refine Kd.C_drewN ?_ _) | (with_reducible refine Kd.C_drew ?_))); (case side4 => exact HC3.out); rintro e w' ⟨rfl, ⟨nd, rfl⟩⟩; obtain ⟨Ao155, co155, eo155⟩ := Kd.R_slice HO_30.out; subst eo155) | (go_at_call 15; (with_reducible refine (phaetonref01_SameBytes.calls _ _ t407 _ _ l3 true _ ?side1 ?side2 ?side3 ?side4 A152.out).mono ?_); (case side1 => repeat (first | exact (Kd.R_reads' HO_30.out).2.2 | (with_reducible refine Kd.C_alloc ?_ _) | (with_reducible refine Kd.C_drewN ?_ _) | (with_reducible refine Kd.C_drew ?_))); (case side2 => exact (Kd.R_reads' HO_30.out).2.1); (case side3 => repeat (first | exact (Kd.C_below HR3.out (by repeat (first | (with_reducible first | exact HB.out | apply below_alloc | apply pw_below_drewN | apply below_drew1 | refine below_set ?_ GE393.out | refine below_set ?_ GE402.out | refine below_set ?_ GE411.out | refine below_set ?_ GE425.out) | exact HB.out))) | (with_reducible refine Kd.C_alloc ?_ _) | (with_reducible refine Kd.C_drewN ?_ _) | (with_reducible refine Kd.C_drew ?_))); (case side4 => exact HC3.out); rintro e w' ⟨rfl, ⟨nd, rfl⟩⟩))
                                go_ret
                                exact ⟨by first | rfl | (simp [errW_none, errW_some] <;> rfl) | (simp [*, errW_none, errW_some] <;> rfl), by repeat (first | (with_reducible first | exact HB.out | apply below_alloc | apply pw_below_drewN | apply below_drew1 | refine below_set ?_ GE393.out | refine below_set ?_ GE402.out | refine below_set ?_ GE411.out | refine below_set ?_ GE425.out) | exact HB.out)⟩
                              · replace c153 := Bool.eq_false_iff.mpr c153
                                subst c153
                                have H1 : (none) = some r := by rw [if_neg (show ¬ (false = true) by decide)] at H; exact H
                                clear H
                                have H := H1
                                clear H1
                                exact absurd H (by simp)
                            · rw [if_neg c151] at H
                              exact absurd H (by simp)
                          · replace c150 := Bool.eq_false_iff.mpr c150
                            subst c150
                            have H1 : (none) = some r := by rw [if_neg (show ¬ (false = true) by decide)] at H; exact H
                            clear H
                            have H := H1
                            clear H1
                            exact absurd H (by simp)
                      · replace c141 := Bool.eq_false_iff.mpr c141
                        subst c141
                        have H1 : (none) = some r := by rw [if_neg (show ¬ (false = true) by decide)] at H; exact H
                        clear H
                        have H := H1
                        clear H1
                        exact absurd H (by simp)
                    · rw [if_neg c139] at H
                      exact absurd H (by simp)
                  · rw [if_neg c138] at H
                    have c138b0 : decide (1 < (wrap64 ((Int.tmod (wrap64 (a2)) 14) + 1))) = false := decide_eq_false c138
                    clear c138
                    by_cases c156 : (wrap64 ((Int.tmod (wrap64 (a2)) 14) + 1)) = 1
                    · rw [if_pos c156] at H
                      have c156b0 : ((wrap64 ((Int.tmod (wrap64 (a2)) 14) + 1)) == 1) = true := beq_iff_eq.mpr c156
                      have c156b1 : ((wrap64 ((Int.tmod (wrap64 (a2)) 14) + 1)) != 1) = false := bne_eq_false_iff_eq.mpr c156
                      clear c156
                      by_cases c157 : t401 = 1
                      · rw [if_pos c157] at H
                        have c157b0 : (t401 == 1) = true := beq_iff_eq.mpr c157
                        have c157b1 : (t401 != 1) = false := bne_eq_false_iff_eq.mpr c157
                        clear c157
                        by_cases c158 : t368 = true
                        · subst c158
                          have H1 : (if t410 = 1 then ((phaetonref01_SameBytes.f t407 l3).bind fun t438 => (if t438 = true then (some true) else (none))) else (none)) = some r := by rw [if_pos rfl] at H; exact H
                          clear H
                          have H := H1
                          clear H1
                          by_cases c159 : t410 = 1
                          · rw [if_pos c159] at H
                            have c159b0 : (t410 == 1) = true := beq_iff_eq.mpr c159
                            have c159b1 : (t410 != 1) = false := bne_eq_false_iff_eq.mpr c159
                            clear c159
                            replace H := Option.bind_eq_some_iff.mp H
                            obtain ⟨t438, A1600, H⟩ := H
                            replace H : (if t438 = true then (some true) else (none)) = some r := H
                            have A160 := Aside0.mk A1600
                            clear A1600
                            by_cases c161 : t438 = true
                            · subst c161
                              have H1 : (some true) = some r := by rw [if_pos rfl] at H; exact H
                              clear H
                              have H := H1
                              clear H1
                              obtain rfl := Option.some.inj H
                              obtain ⟨Ao162, co162, eo162⟩ := Kd.R_slice HO_30.out
                              subst eo162
                              go_wp2_with (first | (go_at_call 15; (with_reducible refine (phaetonref01_SameBytes.calls _ _ t407 _ _ l3 true _ ?side1 ?side2 ?side3 ?side4 A160.out).mono ?_); (case side1 => repeat (first | exact (Kd.R_reads' HO_30.out).2.2 | (with_reducible refine Kd.C_alloc ?_ _) | (with_reducible refine Kd.C_drewN ?_ _) | (with_reducible refine Kd.C_drew ?_))); (case side2 => exact (Kd.R_reads' HO_30.out).2.1); (case side3 => repeat (first | exact (Kd.C_below HR3.out HB.out) | (with_reducible refine Kd.C_alloc ?_ _) | (with_reducible refine Kd.C_drewN ?_ _) | (with_reducible refine Kd.C_drew ?_))); (case side4 => exact HC3.out); rintro e w' ⟨rfl, ⟨nd, rfl⟩⟩))
                              go_ret
                              exact ⟨by first | rfl | (simp [errW_none, errW_some] <;> rfl) | (simp [*, errW_none, errW_some] <;> rfl), by repeat (first | (with_reducible first | exact HB.out | apply below_alloc | apply pw_below_drewN | apply below_drew1 | refine below_set ?_ GE393.out | refine below_set ?_ GE402.out | refine below_set ?_ GE411.out | refine below_set ?_ GE425.out) | exact HB.out)⟩
                            · replace c161 := Bool.eq_false_iff.mpr c161
                              subst c161
                              have H1 : (none) = some r := by rw [if_neg (show ¬ (false = true) by decide)] at H; exact H
                              clear H
                              have H := H1
                              clear H1
                              exact absurd H (by simp)
                          · rw [if_neg c159] at H
                            exact absurd H (by simp)
                        · replace c158 := Bool.eq_false_iff.mpr c158
                          subst c158
                          have H1 : (none) = some r := by rw [if_neg (show ¬ (false = true) by decide)] at H; exact H
                          clear H
                          have H := H1
                          clear H1
                          exact absurd H (by simp)
                      · rw [if_neg c157] at H
                        exact absurd H (by simp)
                    · rw [if_neg c156] at H
                      have c156b0 : ((wrap64 ((Int.tmod (wrap64 (a2)) 14) + 1)) == 1) = false := beq_eq_false_iff_ne.mpr c156
                      have c156b1 : ((wrap64 ((Int.tmod (wrap64 (a2)) 14) + 1)) != 1) = true := bne_iff_ne.mpr c156
                      by_cases c163 : t368 = true
                      · subst c163
                        have H1 : (if t410 = 1 then ((phaetonref01_SameBytes.f t407 l3).bind fun t439 => (if t439 = true then (some true) else (none))) else (none)) = some r := by rw [if_pos rfl] at H; exact H
                        clear H
                        have H := H1
                        clear H1
                        by_cases c164 : t410 = 1
                        · rw [if_pos c164] at H
                          have c164b0 : (t410 == 1) = true := beq_iff_eq.mpr c164
                          have c164b1 : (t410 != 1) = false := bne_eq_false_iff_eq.mpr c164
                          clear c164
                          replace H := Option.bind_eq_some_iff.mp H
                          obtain ⟨t439, A1650, H⟩ := H
                          replace H : (if t439 = true then (some true) else (none)) = some r := H
                          have A165 := Aside0.mk A1650
                          clear A1650
                          by_cases c166 : t439 = true
                          · subst c166
                            have H1 : (some true) = some r := by rw [if_pos rfl] at H; exact H
                            clear H
                            have H := H1
                            clear H1
                            obtain rfl := Option.some.inj H
                            obtain ⟨Ao167, co167, eo167⟩ := Kd.R_slice HO_30.out
                            subst eo167
                            go_wp2_with (first | (go_at_call 15; (with_reducible refine (phaetonref01_SameBytes.calls _ _ t407 _ _ l3 true _ ?side1 ?side2 ?side3 ?side4 A165.out).mono ?_); (case side1 => repeat (first | exact (Kd.R_reads' HO_30.out).2.2 | (with_reducible refine Kd.C_alloc ?_ _) | (with_reducible refine Kd.C_drewN ?_ _) | (with_reducible refine Kd.C_drew ?_))); (case side2 => exact (Kd.R_reads' HO_30.out).2.1); (case side3 => repeat (first | exact (Kd.C_below HR3.out HB.out) | (with_reducible refine Kd.C_alloc ?_ _) | (with_reducible refine Kd.C_drewN ?_ _) | (with_reducible refine Kd.C_drew ?_))); (case side4 => exact HC3.out); rintro e w' ⟨rfl, ⟨nd, rfl⟩⟩))
                            go_ret
                            exact ⟨by first | rfl | (simp [errW_none, errW_some] <;> rfl) | (simp [*, errW_none, errW_some] <;> rfl), by repeat (first | (with_reducible first | exact HB.out | apply below_alloc | apply pw_below_drewN | apply below_drew1 | refine below_set ?_ GE393.out | refine below_set ?_ GE402.out | refine below_set ?_ GE411.out | refine below_set ?_ GE425.out) | exact HB.out)⟩
                          · replace c166 := Bool.eq_false_iff.mpr c166
                            subst c166
                            have H1 : (none) = some r := by rw [if_neg (show ¬ (false = true) by decide)] at H; exact H
                            clear H
                            have H := H1
                            clear H1
                            exact absurd H (by simp)
                        · rw [if_neg c164] at H
                          exact absurd H (by simp)
                      · replace c163 := Bool.eq_false_iff.mpr c163
                        subst c163
                        have H1 : (none) = some r := by rw [if_neg (show ¬ (false = true) by decide)] at H; exact H
                        clear H
                        have H := H1
                        clear H1
                        exact absurd H (by simp)
                · exfalso; (try simp only [decide_eq_true_eq, decide_eq_false_iff_not, beq_iff_eq, beq_eq_false_iff_ne, ne_eq] at c76b0); omega
/-- THE ONE PURE STATEMENT of phaetonlaw16_TrustStale: yours. -/
def phaetonlaw16_TrustStale.Pure : Prop := ∀ (a0 : Int) (a1 : Int) (a2 : Int) (l3 : List Int) (l4 : List Int) (a5 : Int), (Lit.int .u16 a0).wf = true → (Lit.int .u8 a1).wf = true → (Lit.int .u8 a2).wf = true → l3.length ≤ maxLen → l3.length * 1 ≤ 140737488351232 → (∀ x ∈ l3, (Lit.int .u8 x).wf = true) → l4.length ≤ maxLen → l4.length * 1 ≤ 140737488351232 → (∀ x ∈ l4, (Lit.int .u8 x).wf = true) → (Lit.int .u8 a5).wf = true → ∃ k, phaetonlaw16_TrustStale.f k a0 a1 a2 l3 l4 a5 = some true
theorem phaetonlaw16_TrustStale.walk (P : phaetonlaw16_TrustStale.Pure) (a0 : Int) (a1 : Int) (a2 : Int) (a3 : Option Addr) (len3 cap3 : Nat) (z3 : List Int) (a4 : Option Addr) (len4 cap4 : Nat) (z4 : List Int) (a5 : Int) (w : World) (w0 : (Lit.int .u16 a0).wf = true) (w1 : (Lit.int .u8 a1).wf = true) (w2 : (Lit.int .u8 a2).wf = true) (w3 : (a3 = none ∧ len3 = 0 ∧ cap3 = 0 ∧ z3 = []) ∨ ∃ x, a3 = some x ∧ len3 ≤ cap3 ∧ cap3 ≤ maxLen ∧ z3.length = cap3 ∧ (∀ i, i < z3.length → w.cell? (x.add i) = some (.int .u8 (z3.getD i 0))) ∧ ∀ n ∈ z3, (Lit.int .u8 n).wf = true) (y3 : len3 * 1 ≤ 140737488351232) (w4 : (a4 = none ∧ len4 = 0 ∧ cap4 = 0 ∧ z4 = []) ∨ ∃ x, a4 = some x ∧ len4 ≤ cap4 ∧ cap4 ≤ maxLen ∧ z4.length = cap4 ∧ (∀ i, i < z4.length → w.cell? (x.add i) = some (.int .u8 (z4.getD i 0))) ∧ ∀ n ∈ z4, (Lit.int .u8 n).wf = true) (y4 : len4 * 1 ≤ 140737488351232) (w5 : (Lit.int .u8 a5).wf = true) :
    Calls Try.prog 8 #[.int .u16 a0, .int .u8 a1, .int .u8 a2, .slice a3 len3 cap3, .slice a4 len4 cap4, .int .u8 a5] w fun e w' => e = .returned (.bool true) ∧ Below w.heap.size w w' := by
  obtain ⟨l3, rfl, hr3, hm3, hw3, hc3⟩ := ReadsInt.ofRowC w3
  obtain ⟨l4, rfl, hr4, hm4, hw4, hc4⟩ := ReadsInt.ofRowC w4
  obtain ⟨k, h⟩ := P a0 a1 a2 l3 l4 a5 w0 w1 w2 hm3 y3 hw3 hm4 y4 hw4 w5
  refine (phaetonlaw16_TrustStale.calls k a0 a1 a2 _ _ l3 _ _ l4 a5 true w (Kd.C_of_reads (d := (0 : Int)) (h1 := fun _ => rfl) hr3) hc3 (Kd.C_of_reads (d := (0 : Int)) (h1 := fun _ => rfl) hr4) hc4 h).mono ?_
  rintro e w' ⟨rfl, hd⟩
  exact ⟨rfl, hd⟩

end Go.Proofs.Ytfjffajmagefkaa.Px

-- Written by myprint.py, a program of this session's, over the kit's print.py; not a text of print.sh's own.
import Derived.Test.YtfjffajmagefkaaHandBox
import Derived.Test.YtfjffajmagefkaaPx0
import Derived.Test.YtfjffajmagefkaaPx2
import Derived.Test.YtfjffajmagefkaaPx4
namespace Go.Proofs.Ytfjffajmagefkaa.Px
open Go.RowKit Go.Proofs.YtfjffajmagefkaaW.PrintWords Go.Proofs.YtfjffajmagefkaaW.PrintLast Go.Proofs.YtfjffajmagefkaaW.PrintMore
attribute [local go_sem] max2_int min2_int max_two min_two max_three min_three max_four min_four   -- for this text's walks alone
set_option linter.unusedVariables false
set_option linter.unusedSimpArgs false

/-! ### phaetonlaw16_TrustRow: function 7 -/
mutual
def phaetonlaw16_TrustRow.j0 : Nat → Int → List (List Int) → List Int → Int → Bool → Bool → Option (Bool)
  | 0, _, _, _, _, _, _ => none
  | k + 1, x0, x1, x2, x3, x9, x32 => if x32 = true then (if x9 = true then (some true) else (none)) else ((trust_New.f).bind fun bt335 => (phaetonlaw16_TrustRow.l0 k x0 x1 x2 x9 (wrap64 ((Int.tmod (wrap64 (x3)) 14) + 1)) 0 0 bt335.1 bt335.2.1 bt335.2.2.1 bt335.2.2.2))
def phaetonlaw16_TrustRow.l0 : Nat → Int → List (List Int) → List Int → Bool → Int → Int → Int → Bool → Int → Int → Int → Option (Bool)
  | 0, _, _, _, _, _, _, _, _, _, _, _ => none
  | k + 1, x0, x1, x2, x9, x10, x12, x13, x340000, x340001, x340002, x340003 => if x13 < (x1.length : Int) then (if 0 ≤ x13 then (if ((rd_L1 x1 x13).length : Int) > 6 then (if x9 = true then (some true) else (none)) else ((trust_Wrap.f (wrap64 (x0)) (Int.tmod x13 15) (rd_L1 x1 x13)).bind fun bt342 => (if bt342.2 = true then (if x13 < (x2.length : Int) then (if (Int.tmod (rd x2 x13) 3) = 1 then (if (wrap64 (x12 + 2)) ≤ x10 then (phaetonlaw16_TrustRow.j2 k x0 x1 x2 x9 x10 x12 x13 bt342.1 x340000 x340000 x340001 x340002 x340003) else (phaetonlaw16_TrustRow.j2 k x0 x1 x2 x9 x10 x12 x13 bt342.1 false x340000 x340001 x340002 x340003)) else (phaetonlaw16_TrustRow.j2 k x0 x1 x2 x9 x10 x12 x13 bt342.1 false x340000 x340001 x340002 x340003)) else (none)) else (none)))) else (none)) else (if x9 = true then (some true) else (none))
def phaetonlaw16_TrustRow.j2 : Nat → Int → List (List Int) → List Int → Bool → Int → Int → Int → List Int → Bool → Bool → Int → Int → Int → Option (Bool)
  | 0, _, _, _, _, _, _, _, _, _, _, _, _, _ => none
  | k + 1, x0, x1, x2, x9, x10, x12, x13, x14, x81, x340000, x340001, x340002, x340003 => if x81 = true then (phaetonlaw16_TrustRow.l0 k x0 x1 x2 x9 x10 (wrap64 (x12 + 1)) (wrap64 (x13 + 1)) x340000 x340001 x340002 x340003) else ((trust_Check.f x340000 x340001 x340002 x340003 (wrap64 (x0)) x14 x10).bind fun bt347 => (if 0 ≤ x13 then (if x13 < (x1.length : Int) then ((phaetonref01_SameBytes.f bt347.2.2.2.2.1 (rd_L1 x1 x13)).bind fun t357 => (if t357 = true then (if x340000 = true then (if x12 = 0 then (if bt347.2.2.2.2.2 = 1 then (if x12 > 0 then (if bt347.2.2.2.2.2 = 4 then (phaetonlaw16_TrustRow.j3 k x0 x1 x2 x9 x10 x13 x14 (bt347.2.2.2.1 != 0) bt347.1 bt347.2.1 bt347.2.2.1 bt347.2.2.2.1) else (phaetonlaw16_TrustRow.j3 k x0 x1 x2 x9 x10 x13 x14 true bt347.1 bt347.2.1 bt347.2.2.1 bt347.2.2.2.1)) else (phaetonlaw16_TrustRow.j3 k x0 x1 x2 x9 x10 x13 x14 (bt347.2.2.2.1 != 0) bt347.1 bt347.2.1 bt347.2.2.1 bt347.2.2.2.1)) else (phaetonlaw16_TrustRow.j3 k x0 x1 x2 x9 x10 x13 x14 true bt347.1 bt347.2.1 bt347.2.2.1 bt347.2.2.2.1)) else (if x12 > 0 then (if bt347.2.2.2.2.2 = 4 then (phaetonlaw16_TrustRow.j3 k x0 x1 x2 x9 x10 x13 x14 (bt347.2.2.2.1 != 0) bt347.1 bt347.2.1 bt347.2.2.1 bt347.2.2.2.1) else (phaetonlaw16_TrustRow.j3 k x0 x1 x2 x9 x10 x13 x14 true bt347.1 bt347.2.1 bt347.2.2.1 bt347.2.2.2.1)) else (phaetonlaw16_TrustRow.j3 k x0 x1 x2 x9 x10 x13 x14 (bt347.2.2.2.1 != 0) bt347.1 bt347.2.1 bt347.2.2.1 bt347.2.2.2.1))) else (if bt347.2.2.2.2.2 = 2 then (phaetonlaw16_TrustRow.j3 k x0 x1 x2 x9 x10 x13 x14 (bt347.2.2.2.1 != 0) bt347.1 bt347.2.1 bt347.2.2.1 bt347.2.2.2.1) else (phaetonlaw16_TrustRow.j3 k x0 x1 x2 x9 x10 x13 x14 true bt347.1 bt347.2.1 bt347.2.2.1 bt347.2.2.2.1))) else (phaetonlaw16_TrustRow.j3 k x0 x1 x2 x9 x10 x13 x14 true bt347.1 bt347.2.1 bt347.2.2.1 bt347.2.2.2.1))) else (none)) else (none)))
def phaetonlaw16_TrustRow.j3 : Nat → Int → List (List Int) → List Int → Bool → Int → Int → List Int → Bool → Bool → Int → Int → Int → Option (Bool)
  | 0, _, _, _, _, _, _, _, _, _, _, _, _ => none
  | k + 1, x0, x1, x2, x9, x10, x13, x14, x138, x356000, x356001, x356002, x356003 => if x138 = true then (none) else (if 0 ≤ x13 then (if x13 < (x2.length : Int) then (if (Int.tmod (rd x2 x13) 3) = 2 then ((trust_Check.f x356000 x356001 x356002 x356003 (wrap64 (x0)) x14 x10).bind fun bt359 => (if bt359.2.2.2.2.2 = 3 then (if (bt359.2.2.2.2.1.length : Int) = 0 then (if bt359.2.2.2.1 = 1 then (phaetonlaw16_TrustRow.l0 k x0 x1 x2 x9 x10 0 (wrap64 (x13 + 1)) bt359.1 bt359.2.1 bt359.2.2.1 bt359.2.2.2.1) else (none)) else (none)) else (none))) else (phaetonlaw16_TrustRow.l0 k x0 x1 x2 x9 x10 0 (wrap64 (x13 + 1)) x356000 x356001 x356002 x356003)) else (none)) else (none))
end
def phaetonlaw16_TrustRow.f (k : Nat) (a0 : Int) (l1 : List (List Int)) (l2 : List Int) (a3 : Int) : Option (Bool) := (phaetonlaw16_head.f k).bind fun t334 => (if (l1.length : Int) > 60 then (phaetonlaw16_TrustRow.j0 k a0 l1 l2 a3 t334 true) else (phaetonlaw16_TrustRow.j0 k a0 l1 l2 a3 t334 (decide ((l2.length : Int) < (l1.length : Int)))))
theorem phaetonlaw16_TrustRow.mono_l : ∀ k, (∀ y0 y1 y2 y3 y4 y5, LeO (phaetonlaw16_TrustRow.j0 k y0 y1 y2 y3 y4 y5) (phaetonlaw16_TrustRow.j0 (k + 1) y0 y1 y2 y3 y4 y5)) ∧ (∀ y0 y1 y2 y3 y4 y5 y6 y7 y8 y9 y10, LeO (phaetonlaw16_TrustRow.l0 k y0 y1 y2 y3 y4 y5 y6 y7 y8 y9 y10) (phaetonlaw16_TrustRow.l0 (k + 1) y0 y1 y2 y3 y4 y5 y6 y7 y8 y9 y10)) ∧ (∀ y0 y1 y2 y3 y4 y5 y6 y7 y8 y9 y10 y11 y12, LeO (phaetonlaw16_TrustRow.j2 k y0 y1 y2 y3 y4 y5 y6 y7 y8 y9 y10 y11 y12) (phaetonlaw16_TrustRow.j2 (k + 1) y0 y1 y2 y3 y4 y5 y6 y7 y8 y9 y10 y11 y12)) ∧ (∀ y0 y1 y2 y3 y4 y5 y6 y7 y8 y9 y10 y11, LeO (phaetonlaw16_TrustRow.j3 k y0 y1 y2 y3 y4 y5 y6 y7 y8 y9 y10 y11) (phaetonlaw16_TrustRow.j3 (k + 1) y0 y1 y2 y3 y4 y5 y6 y7 y8 y9 y10 y11))
  | 0 => ⟨fun _ _ _ _ _ _ r h => by simp [phaetonlaw16_TrustRow.j0] at h, fun _ _ _ _ _ _ _ _ _ _ _ r h => by simp [phaetonlaw16_TrustRow.l0] at h, fun _ _ _ _ _ _ _ _ _ _ _ _ _ r h => by simp [phaetonlaw16_TrustRow.j2] at h, fun _ _ _ _ _ _ _ _ _ _ _ _ r h => by simp [phaetonlaw16_TrustRow.j3] at h⟩
  | k + 1 => by
    obtain ⟨ih0, ih1, ih2, ih3⟩ := phaetonlaw16_TrustRow.mono_l k
    refine ⟨?_, ?_, ?_, ?_⟩
    · intro y0 y1 y2 y3 y4 y5
      unfold phaetonlaw16_TrustRow.j0
      repeat' first
      | (with_reducible exact ih0 _ _ _ _ _ _)
      | (with_reducible exact ih1 _ _ _ _ _ _ _ _ _ _ _)
      | (with_reducible exact ih2 _ _ _ _ _ _ _ _ _ _ _ _ _)
      | (with_reducible exact ih3 _ _ _ _ _ _ _ _ _ _ _ _)
      | (with_reducible exact phaetonlaw16_head.mono _)
      | (with_reducible exact LeO.refl _)
      | (with_reducible exact LeO.none _)
      | (with_reducible refine LeO.ite ?_ ?_)
      | (with_reducible refine LeO.bind ?_ (fun _ => ?_))
      | exact ih0 _ _ _ _ _ _
      | exact ih1 _ _ _ _ _ _ _ _ _ _ _
      | exact ih2 _ _ _ _ _ _ _ _ _ _ _ _ _
      | exact ih3 _ _ _ _ _ _ _ _ _ _ _ _
      | exact phaetonlaw16_head.mono _
      | exact LeO.none _
      | refine LeO.ite ?_ ?_
      | refine LeO.bind ?_ (fun _ => ?_)
    · intro y0 y1 y2 y3 y4 y5 y6 y7 y8 y9 y10
      unfold phaetonlaw16_TrustRow.l0
      repeat' first
      | (with_reducible exact ih0 _ _ _ _ _ _)
      | (with_reducible exact ih1 _ _ _ _ _ _ _ _ _ _ _)
      | (with_reducible exact ih2 _ _ _ _ _ _ _ _ _ _ _ _ _)
      | (with_reducible exact ih3 _ _ _ _ _ _ _ _ _ _ _ _)
      | (with_reducible exact phaetonlaw16_head.mono _)
      | (with_reducible exact LeO.refl _)
      | (with_reducible exact LeO.none _)
      | (with_reducible refine LeO.ite ?_ ?_)
      | (with_reducible refine LeO.bind ?_ (fun _ => ?_))
      | exact ih0 _ _ _ _ _ _
      | exact ih1 _ _ _ _ _ _ _ _ _ _ _
      | exact ih2 _ _ _ _ _ _ _ _ _ _ _ _ _
      | exact ih3 _ _ _ _ _ _ _ _ _ _ _ _
      | exact phaetonlaw16_head.mono _
      | exact LeO.none _
      | refine LeO.ite ?_ ?_
      | refine LeO.bind ?_ (fun _ => ?_)
    · intro y0 y1 y2 y3 y4 y5 y6 y7 y8 y9 y10 y11 y12
      unfold phaetonlaw16_TrustRow.j2
      repeat' first
      | (with_reducible exact ih0 _ _ _ _ _ _)
      | (with_reducible exact ih1 _ _ _ _ _ _ _ _ _ _ _)
      | (with_reducible exact ih2 _ _ _ _ _ _ _ _ _ _ _ _ _)
      | (with_reducible exact ih3 _ _ _ _ _ _ _ _ _ _ _ _)
      | (with_reducible exact phaetonlaw16_head.mono _)
      | (with_reducible exact LeO.refl _)
      | (with_reducible exact LeO.none _)
      | (with_reducible refine LeO.ite ?_ ?_)
      | (with_reducible refine LeO.bind ?_ (fun _ => ?_))
      | exact ih0 _ _ _ _ _ _
      | exact ih1 _ _ _ _ _ _ _ _ _ _ _
      | exact ih2 _ _ _ _ _ _ _ _ _ _ _ _ _
      | exact ih3 _ _ _ _ _ _ _ _ _ _ _ _
      | exact phaetonlaw16_head.mono _
      | exact LeO.none _
      | refine LeO.ite ?_ ?_
      | refine LeO.bind ?_ (fun _ => ?_)
    · intro y0 y1 y2 y3 y4 y5 y6 y7 y8 y9 y10 y11
      unfold phaetonlaw16_TrustRow.j3
      repeat' first
      | (with_reducible exact ih0 _ _ _ _ _ _)
      | (with_reducible exact ih1 _ _ _ _ _ _ _ _ _ _ _)
      | (with_reducible exact ih2 _ _ _ _ _ _ _ _ _ _ _ _ _)
      | (with_reducible exact ih3 _ _ _ _ _ _ _ _ _ _ _ _)
      | (with_reducible exact phaetonlaw16_head.mono _)
      | (with_reducible exact LeO.refl _)
      | (with_reducible exact LeO.none _)
      | (with_reducible refine LeO.ite ?_ ?_)
      | (with_reducible refine LeO.bind ?_ (fun _ => ?_))
      | exact ih0 _ _ _ _ _ _
      | exact ih1 _ _ _ _ _ _ _ _ _ _ _
      | exact ih2 _ _ _ _ _ _ _ _ _ _ _ _ _
      | exact ih3 _ _ _ _ _ _ _ _ _ _ _ _
      | exact phaetonlaw16_head.mono _
      | exact LeO.none _
      | refine LeO.ite ?_ ?_
      | refine LeO.bind ?_ (fun _ => ?_)
theorem phaetonlaw16_TrustRow.mono : ∀ a0 a1 a2 a3 k, LeO (phaetonlaw16_TrustRow.f k a0 a1 a2 a3) (phaetonlaw16_TrustRow.f (k + 1) a0 a1 a2 a3) := by
  intro a0 a1 a2 a3 k
  obtain ⟨ih0, ih1, ih2, ih3⟩ := phaetonlaw16_TrustRow.mono_l k
  unfold phaetonlaw16_TrustRow.f
  repeat' first
      | (with_reducible exact ih0 _ _ _ _ _ _)
      | (with_reducible exact ih1 _ _ _ _ _ _ _ _ _ _ _)
      | (with_reducible exact ih2 _ _ _ _ _ _ _ _ _ _ _ _ _)
      | (with_reducible exact ih3 _ _ _ _ _ _ _ _ _ _ _ _)
      | (with_reducible exact phaetonlaw16_head.mono _)
      | (with_reducible exact LeO.refl _)
      | (with_reducible exact LeO.none _)
      | (with_reducible refine LeO.ite ?_ ?_)
      | (with_reducible refine LeO.bind ?_ (fun _ => ?_))
      | exact ih0 _ _ _ _ _ _
      | exact ih1 _ _ _ _ _ _ _ _ _ _ _
      | exact ih2 _ _ _ _ _ _ _ _ _ _ _ _ _
      | exact ih3 _ _ _ _ _ _ _ _ _ _ _ _
      | exact phaetonlaw16_head.mono _
      | exact LeO.none _
      | refine LeO.ite ?_ ?_
      | refine LeO.bind ?_ (fun _ => ?_)
set_option maxHeartbeats 80000000 in
set_option maxRecDepth 100000 in
theorem phaetonlaw16_TrustRow.calls (k : Nat) (a0 : Int) (A1 : Option Addr) (c1 : Nat) (l1 : List (List Int)) (A2 : Option Addr) (c2 : Nat) (l2 : List Int) (a3 : Int) (r : Bool) (w : World) (hr1 : Kd.C (Kd.slice 5 (Kd.int .u8)) w A1 l1.length l1) (hc1 : l1.length ≤ c1) (hr2 : Kd.C (Kd.int .u8) w A2 l2.length l2) (hc2 : l2.length ≤ c2) (h : phaetonlaw16_TrustRow.f k a0 l1 l2 a3 = some r) :
    Calls Try.prog 7 #[.int .u16 a0, .slice A1 l1.length c1, .slice A2 l2.length c2, .int .u8 a3] w fun e w' => e = .returned (.bool r) ∧ Below w.heap.size w w' := by
  have hu24 := Try.underlying24
  have HR1 := Aside0.mk hr1
  have HC1 := Aside0.mk hc1
  clear hr1 hc1
  have HR2 := Aside0.mk hr2
  have HC2 := Aside0.mk hc2
  clear hr2 hc2
  have HB := Aside0.mk (Below.refl w.heap.size w)
  have H : ((phaetonlaw16_head.f k).bind fun t334 => (if (l1.length : Int) > 60 then (phaetonlaw16_TrustRow.j0 k a0 l1 l2 a3 t334 true) else (phaetonlaw16_TrustRow.j0 k a0 l1 l2 a3 t334 (decide ((l2.length : Int) < (l1.length : Int)))))) = some r := h
  clear h
  replace H := Option.bind_eq_some_iff.mp H
  obtain ⟨t334, A50, H⟩ := H
  replace H : (if (l1.length : Int) > 60 then (phaetonlaw16_TrustRow.j0 k a0 l1 l2 a3 t334 true) else (phaetonlaw16_TrustRow.j0 k a0 l1 l2 a3 t334 (decide ((l2.length : Int) < (l1.length : Int))))) = some r := H
  have A5 := Aside0.mk A50
  clear A50
  have HC6 := Aside0.mk H
  clear H
  go_enter Try.func7, Try.ntmps7
  (try simp only [List.append])
  go_upto_region 2 with (first | ((with_reducible refine gate_callee (f := 10) rfl ?_); refine goesL_ (some 22) rfl rfl Try.func10 (by kernel_rfl) rfl #[] rfl (by (try simp only [List.map_toArray, List.map_cons, List.map_nil]); first | done | rfl | (simp only [List.length_drop, List.length_take]; rfl)) ?_; (with_reducible refine (phaetonlaw16_head.calls k  t334 _ A5.out).mono ?_); rintro e w7 ⟨rfl, hb⟩; refine ⟨_, rfl, ?_⟩; have n0_ := Aside0.mk (below_step (by repeat (first | (with_reducible first | exact HB.out | apply below_alloc | apply pw_below_drewN | apply below_drew1) | exact HB.out)) hb); clear HB; have HB := n0_; clear n0_; (try clear hb); (try clear hb2); (try clear hk); (try clear hi)))
  (try simp only [Act.put, List.setIfInBounds_toArray, List.set_cons_zero, List.set_cons_succ])
  go_cut [32] (fun v32 wc => ∃ (kq : Nat) (x32_5 : Bool), v32 = .bool x32_5 ∧ Aside0 (phaetonlaw16_TrustRow.j0 kq a0 l1 l2 a3 t334 x32_5 = some r) ∧ Aside0 (kq ≤ k) ∧ Aside0 (Below w.heap.size w wc))
  case first => as_aux_lemma =>
    have H := HC6.out
    clear HC6
    by_cases c8 : (l1.length : Int) > 60
    · rw [if_pos c8] at H
      have c8b0 : decide (60 < (l1.length : Int)) = true := decide_eq_true c8
      have c8b1 : decide (60 < l1.length) = true := decide_eq_true (by omega)
      clear c8
      (first | rw [c8b0] | (simp only [i64_w, i32_w]; rw [c8b0]) | skip)
      have H' := Aside0.mk H
      clear H
      go_wp2
      go_meet
      case rel => exact ⟨_, (true), (by first | rfl | (simp; done) | (simp [*]; done)), H', ⟨by first | omega | exact Nat.le_refl _⟩, ⟨by repeat (first | (with_reducible first | exact HB.out | apply below_alloc | apply pw_below_drewN | apply below_drew1) | exact HB.out)⟩⟩
    · rw [if_neg c8] at H
      have c8b0 : decide (60 < (l1.length : Int)) = false := decide_eq_false c8
      have c8b1 : decide (60 < l1.length) = false := decide_eq_false (by omega)
      clear c8
      (first | rw [c8b0] | (simp only [i64_w, i32_w]; rw [c8b0]) | skip)
      have H' := Aside0.mk H
      clear H
      go_wp2
      go_meet
      case rel => exact ⟨_, (decide ((l2.length : Int) < (l1.length : Int))), (by first | rfl | (simp; done) | (simp [*]; done)), H', ⟨by first | omega | exact Nat.le_refl _⟩, ⟨by repeat (first | (with_reducible first | exact HB.out | apply below_alloc | apply pw_below_drewN | apply below_drew1) | exact HB.out)⟩⟩
  case rest => as_aux_lemma =>
    clear HC6
    try clear c1
    try clear c2
    try clear p2
    try clear c7
    try clear c8
    try clear c8b0
    try clear c8b1
    obtain ⟨kq, x32_5, rfl, HA, HJ5, HB⟩ := hcut
    cases kq with
    | zero => exact absurd HA.out (by simp [phaetonlaw16_TrustRow.j0])
    | succ kj5 =>
      have H := HA.out
      clear HA
      simp only [phaetonlaw16_TrustRow.j0] at H
      by_cases c9 : x32_5 = true
      · subst c9
        have H1 : (if t334 = true then (some true) else (none)) = some r := by rw [if_pos rfl] at H; exact H
        clear H
        have H := H1
        clear H1
        by_cases c10 : t334 = true
        · subst c10
          have H1 : (some true) = some r := by rw [if_pos rfl] at H; exact H
          clear H
          have H := H1
          clear H1
          obtain rfl := Option.some.inj H
          go_wp2
          go_ret
          exact ⟨by first | rfl | (simp [errW_none, errW_some] <;> rfl) | (simp [*, errW_none, errW_some] <;> rfl), by repeat (first | (with_reducible first | exact HB.out | apply below_alloc | apply pw_below_drewN | apply below_drew1) | exact HB.out)⟩
        · replace c10 := Bool.eq_false_iff.mpr c10
          subst c10
          have H1 : (none) = some r := by rw [if_neg (show ¬ (false = true) by decide)] at H; exact H
          clear H
          have H := H1
          clear H1
          exact absurd H (by simp)
      · replace c9 := Bool.eq_false_iff.mpr c9
        subst c9
        have H1 : ((trust_New.f).bind fun bt335 => (phaetonlaw16_TrustRow.l0 kj5 a0 l1 l2 t334 (wrap64 ((Int.tmod (wrap64 (a3)) 14) + 1)) 0 0 bt335.1 bt335.2.1 bt335.2.2.1 bt335.2.2.2)) = some r := by rw [if_neg (show ¬ (false = true) by decide)] at H; exact H
        clear H
        have H := H1
        clear H1
        replace H := Option.bind_eq_some_iff.mp H
        obtain ⟨⟨t335, t336, t337, t338⟩, A110, H⟩ := H
        replace H : (phaetonlaw16_TrustRow.l0 kj5 a0 l1 l2 t334 (wrap64 ((Int.tmod (wrap64 (a3)) 14) + 1)) 0 0 t335 t336 t337 t338) = some r := H
        have A11 := Aside0.mk A110
        clear A110
        have H' := Aside0.mk H
        clear H
        go_wp2_with (first | ((with_reducible refine gate_store (t := 24) (p := 11) rfl ?_); refine HW.store_box2 rfl rfl 24 _ _ rfl rfl rfl BK339.out rfl (by kernel_rfl) (by intro q hq; simp only [List.mem_cons, List.not_mem_nil, or_false] at hq; rcases hq with rfl | rfl | rfl | rfl <;> rfl) ?_; intro w1_ hw1_ hk1_; simp only [List.toList_toArray, World.setCells, Nat.zero_add, Nat.reduceAdd] at hw1_; subst hw1_; have hcb339_0 := (blk_cell hk1_ 0).trans rfl; have hfb339_0 := blk_frozen hk1_ 0; have hcb339_1 := (blk_cell hk1_ 1).trans rfl; have hfb339_1 := blk_frozen hk1_ 1; have hcb339_2 := (blk_cell hk1_ 2).trans rfl; have hfb339_2 := blk_frozen hk1_ 2; have hcb339_3 := (blk_cell hk1_ 3).trans rfl; have hfb339_3 := blk_frozen hk1_ 3; clear hk1_) | ((with_reducible refine gate_callee (f := 16) rfl ?_); refine goesL_ (some 38) rfl rfl Try.func16 (by kernel_rfl) rfl #[] rfl (by (try simp only [List.map_toArray, List.map_cons, List.map_nil]); first | done | rfl | (simp only [List.length_drop, List.length_take]; rfl)) ?_; (with_reducible refine (trust_New.calls  t335 t336 t337 t338 _ A11.out).mono ?_); rintro e w12 ⟨rfl, hb⟩; refine ⟨_, rfl, ?_⟩; have n0_ := Aside0.mk (below_step (by repeat (first | (with_reducible first | exact HB.out | apply below_alloc | apply pw_below_drewN | apply below_drew1) | exact HB.out)) hb); clear HB; have HB := n0_; clear n0_; (try clear hb); (try clear hb2); (try clear hk); (try clear hi)) | ((with_reducible refine gate_dst (N := 11) rfl ?_); (try (refine gate_guard (by rfl) ?_; dsimp only)); refine box_event ?hg (N := 11) ?hd (cs := #[.bool false, .int .i64 0, .int .i64 0, .int .i64 0]) (t := 24) ?hr ?_; (case hd => rfl); (case hg => rfl); (case hr => first | (go_simp; done) | (go_simp; rfl)); intro gb339 hg w13 hbox hb; have n0_ := Aside0.mk (below_step (by repeat (first | (with_reducible first | exact HB.out | apply below_alloc | apply pw_below_drewN | apply below_drew1) | exact HB.out)) hb); have n1_ := Aside0.mk (hbox); have n2_ := Aside0.mk ((by rw [hg]; exact (below_size (by repeat (first | (with_reducible first | exact HB.out | apply below_alloc | apply pw_below_drewN | apply below_drew1) | exact HB.out))) : w.heap.size ≤ gb339)); have n3_ := Aside0.mk ((by rw [hg]; exact (below_size (by repeat (first | (with_reducible first | exact HB.out | apply below_alloc | apply pw_below_drewN | apply below_drew1) | exact HB.out))) : w.heap.size ≤ gb339)); clear HB; have HB := n0_; have BK339 := n1_; have GW339 := n2_; have GE339 := n3_; clear n0_ n1_ n2_ n3_; clear hb hbox hg; have hcz14_0 : w13.cell? ⟨gb339, 0, none⟩ = some (.bool false) := (blk_cell BK339.out 0).trans rfl; have hcz14_1 : w13.cell? ⟨gb339, 1, none⟩ = some (.int .i64 0) := (blk_cell BK339.out 1).trans rfl; have hcz14_2 : w13.cell? ⟨gb339, 2, none⟩ = some (.int .i64 0) := (blk_cell BK339.out 2).trans rfl; have hcz14_3 : w13.cell? ⟨gb339, 3, none⟩ = some (.int .i64 0) := (blk_cell BK339.out 3).trans rfl; have hfz14_0 := blk_frozen BK339.out 0; have hfz14_1 := blk_frozen BK339.out 1; have hfz14_2 := blk_frozen BK339.out 2; have hfz14_3 := blk_frozen BK339.out 3))
        go_loopg [12, 13] kj5 (fun kq v12 v13 w' => ∃ (x12_2 : Int) (x13_2 : Int) (x340000_2 : Bool) (x340001_2 : Int) (x340002_2 : Int) (x340003_2 : Int), v12 = .int .i64 x12_2 ∧ v13 = .int .i64 x13_2 ∧ Aside0 (phaetonlaw16_TrustRow.l0 kq a0 l1 l2 t334 (wrap64 ((Int.tmod (wrap64 (a3)) 14) + 1)) x12_2 x13_2 x340000_2 x340001_2 x340002_2 x340003_2 = some r) ∧ Aside0 (kq ≤ kj5) ∧ Aside0 (w'.heap[gb339]? = some (.cells #[.bool x340000_2, .int .i64 x340001_2, .int .i64 x340002_2, .int .i64 x340003_2] 24 (0, 0))) ∧ Aside0 (Below w.heap.size w w'))
        case atStart => exact ⟨(0), (0), (t335), (t336), (t337), (t338), (by first | rfl | (simp; done) | (simp [*]; done)), (by first | rfl | (simp; done) | (simp [*]; done)), H', ⟨Nat.le_refl _⟩, ⟨by (with_reducible repeat (first | refine blk_drewN ?_ _ | refine blk_drew ?_ | refine blk_alloc ?_ _)); refine blk_put (cs := #[.bool t335, .int .i64 t336, .int .i64 t337, .int .i64 0]) ?_ 3 _ rfl; (with_reducible repeat (first | refine blk_drewN ?_ _ | refine blk_drew ?_ | refine blk_alloc ?_ _)); refine blk_put (cs := #[.bool t335, .int .i64 t336, .int .i64 0, .int .i64 0]) ?_ 2 _ rfl; (with_reducible repeat (first | refine blk_drewN ?_ _ | refine blk_drew ?_ | refine blk_alloc ?_ _)); refine blk_put (cs := #[.bool t335, .int .i64 0, .int .i64 0, .int .i64 0]) ?_ 1 _ rfl; (with_reducible repeat (first | refine blk_drewN ?_ _ | refine blk_drew ?_ | refine blk_alloc ?_ _)); refine blk_put (cs := #[.bool false, .int .i64 0, .int .i64 0, .int .i64 0]) ?_ 0 _ rfl; (with_reducible repeat (first | refine blk_drewN ?_ _ | refine blk_drew ?_ | refine blk_alloc ?_ _)); exact BK339.out⟩, ⟨by repeat (first | (with_reducible first | exact HB.out | apply below_alloc | apply pw_below_drewN | apply below_drew1 | refine below_set ?_ GE339.out) | exact HB.out)⟩⟩
        case round =>
          clear H'
          try clear c1
          try clear c2
          try clear p2
          try clear p6
          try clear c7
          try clear c8
          try clear c8b0
          try clear c8b1
          try clear c9
          try clear c10
          try clear hcz14_0
          try clear hcz14_1
          try clear hcz14_2
          try clear hcz14_3
          try clear hfz14_0
          try clear hfz14_1
          try clear hfz14_2
          try clear hfz14_3
          try clear p2
          obtain ⟨x12_2, x13_2, x340000_2, x340001_2, x340002_2, x340003_2, rfl, rfl, HA, HK2, BK339, HB⟩ := hrel
          cases gk with
          | zero => exact absurd HA.out (by simp [phaetonlaw16_TrustRow.l0])
          | succ k2 =>
            have H := HA.out
            clear HA
            simp only [phaetonlaw16_TrustRow.l0] at H
            by_cases c15 : x13_2 < (l1.length : Int)
            · rw [if_pos c15] at H
              have c15b0 : decide (x13_2 < (l1.length : Int)) = true := decide_eq_true c15
              clear c15
              by_cases c16 : 0 ≤ x13_2
              · rw [if_pos c16] at H
                have c16b0 : decide (0 ≤ x13_2) = true := decide_eq_true c16
                clear c16
                by_cases c17 : ((rd_L1 l1 x13_2).length : Int) > 6
                · rw [if_pos c17] at H
                  have c17b0 : decide (6 < ((rd_L1 l1 x13_2).length : Int)) = true := decide_eq_true c17
                  have c17b1 : decide (6 < (rd_L1 l1 x13_2).length) = true := decide_eq_true (by omega)
                  clear c17
                  by_cases c18 : t334 = true
                  · subst c18
                    have H1 : (some true) = some r := by rw [if_pos rfl] at H; exact H
                    clear H
                    have H := H1
                    clear H1
                    obtain rfl := Option.some.inj H
                    have p340 : 0 ≤ (x13_2 : Int) := of_decide_eq_true (by first | (with_reducible assumption) | assumption)
                    have q340 : x13_2 < (l1.length : Int) := of_decide_eq_true (by first | (with_reducible assumption) | assumption)
                    obtain ⟨ad340, A340_0, c340_0, e340, hx340_0, hl340_0, hi340_0⟩ := at_L1 HR1.out x13_2 p340 q340
                    cases e340
                    replace hx340_0 := (HB.out.cell (World.block_lt_of_cell? w _ hx340_0)).trans hx340_0
                    have HR340_0 := Aside0.mk hi340_0
                    have HC340_0 := Aside0.mk hl340_0
                    clear hi340_0 hl340_0
                    replace p340 := eq_true p340
                    replace q340 := eq_true q340
                    go_wp2
                    go_ret
                    exact ⟨by first | rfl | (simp [errW_none, errW_some] <;> rfl) | (simp [*, errW_none, errW_some] <;> rfl), by repeat (first | (with_reducible first | exact HB.out | apply below_alloc | apply pw_below_drewN | apply below_drew1 | refine below_set ?_ GE339.out) | exact HB.out)⟩
                  · replace c18 := Bool.eq_false_iff.mpr c18
                    subst c18
                    have H1 : (none) = some r := by rw [if_neg (show ¬ (false = true) by decide)] at H; exact H
                    clear H
                    have H := H1
                    clear H1
                    exact absurd H (by simp)
                · rw [if_neg c17] at H
                  have c17b0 : decide (6 < ((rd_L1 l1 x13_2).length : Int)) = false := decide_eq_false c17
                  have c17b1 : decide (6 < (rd_L1 l1 x13_2).length) = false := decide_eq_false (by omega)
                  clear c17
                  replace H := Option.bind_eq_some_iff.mp H
                  obtain ⟨⟨t342, t343⟩, A190, H⟩ := H
                  replace H : (if t343 = true then (if x13_2 < (l2.length : Int) then (if (Int.tmod (rd l2 x13_2) 3) = 1 then (if (wrap64 (x12_2 + 2)) ≤ (wrap64 ((Int.tmod (wrap64 (a3)) 14) + 1)) then (phaetonlaw16_TrustRow.j2 k2 a0 l1 l2 t334 (wrap64 ((Int.tmod (wrap64 (a3)) 14) + 1)) x12_2 x13_2 t342 x340000_2 x340000_2 x340001_2 x340002_2 x340003_2) else (phaetonlaw16_TrustRow.j2 k2 a0 l1 l2 t334 (wrap64 ((Int.tmod (wrap64 (a3)) 14) + 1)) x12_2 x13_2 t342 false x340000_2 x340001_2 x340002_2 x340003_2)) else (phaetonlaw16_TrustRow.j2 k2 a0 l1 l2 t334 (wrap64 ((Int.tmod (wrap64 (a3)) 14) + 1)) x12_2 x13_2 t342 false x340000_2 x340001_2 x340002_2 x340003_2)) else (none)) else (none)) = some r := H
                  have A19 := Aside0.mk A190
                  clear A190
                  by_cases c20 : t343 = true
                  · subst c20
                    have H1 : (if x13_2 < (l2.length : Int) then (if (Int.tmod (rd l2 x13_2) 3) = 1 then (if (wrap64 (x12_2 + 2)) ≤ (wrap64 ((Int.tmod (wrap64 (a3)) 14) + 1)) then (phaetonlaw16_TrustRow.j2 k2 a0 l1 l2 t334 (wrap64 ((Int.tmod (wrap64 (a3)) 14) + 1)) x12_2 x13_2 t342 x340000_2 x340000_2 x340001_2 x340002_2 x340003_2) else (phaetonlaw16_TrustRow.j2 k2 a0 l1 l2 t334 (wrap64 ((Int.tmod (wrap64 (a3)) 14) + 1)) x12_2 x13_2 t342 false x340000_2 x340001_2 x340002_2 x340003_2)) else (phaetonlaw16_TrustRow.j2 k2 a0 l1 l2 t334 (wrap64 ((Int.tmod (wrap64 (a3)) 14) + 1)) x12_2 x13_2 t342 false x340000_2 x340001_2 x340002_2 x340003_2)) else (none)) = some r := by rw [if_pos rfl] at H; exact H
                    clear H
                    have H := H1
                    clear H1
                    have HC21 := Aside0.mk H
                    clear H
                    have p340 : 0 ≤ (x13_2 : Int) := of_decide_eq_true (by first | (with_reducible assumption) | assumption)
                    have q340 : x13_2 < (l1.length : Int) := of_decide_eq_true (by first | (with_reducible assumption) | assumption)
                    obtain ⟨ad340, A340_0, c340_0, e340, hx340_0, hl340_0, hi340_0⟩ := at_L1 HR1.out x13_2 p340 q340
                    cases e340
                    replace hx340_0 := (HB.out.cell (World.block_lt_of_cell? w _ hx340_0)).trans hx340_0
                    have HR340_0 := Aside0.mk hi340_0
                    have HC340_0 := Aside0.mk hl340_0
                    clear hi340_0 hl340_0
                    replace p340 := eq_true p340
                    replace q340 := eq_true q340
                    have p341 : 0 ≤ (x13_2 : Int) := of_decide_eq_true (by first | (with_reducible assumption) | assumption)
                    have q341 : x13_2 < (l1.length : Int) := of_decide_eq_true (by first | (with_reducible assumption) | assumption)
                    obtain ⟨ad341, A341_0, c341_0, e341, hx341_0, hl341_0, hi341_0⟩ := at_L1 HR1.out x13_2 p341 q341
                    obtain rfl : ad340 = ad341 := (by injection e341)
                    replace hx341_0 := (HB.out.cell (World.block_lt_of_cell? w _ hx341_0)).trans hx341_0
                    have HR341_0 := Aside0.mk hi341_0
                    have HC341_0 := Aside0.mk hl341_0
                    clear hi341_0 hl341_0
                    replace p341 := eq_true p341
                    replace q341 := eq_true q341
                    have ea_ := Option.some.inj (hx340_0.symm.trans hx341_0)
                    injection ea_ with ea_ en_ ec_
                    subst ea_
                    subst ec_
                    clear en_
                    go_upto_region 15 with (first | ((with_reducible refine gate_callee (f := 11) rfl ?_); refine goesL_ (some 61) rfl rfl Try.func11 (by kernel_rfl) rfl #[.int .i64 (wrap64 (a0)), .int .i64 (Int.tmod x13_2 15), .slice A340_0 (rd_L1 l1 x13_2).length c340_0] rfl (by (try simp only [List.map_toArray, List.map_cons, List.map_nil]); first | done | rfl | (simp only [List.length_drop, List.length_take]; rfl)) ?_; (with_reducible refine (trust_Wrap.calls (wrap64 (a0)) (Int.tmod x13_2 15) _ _ (rd_L1 l1 x13_2) t342 true _ ?side1 ?side2 A19.out).mono ?_); (case side1 => repeat (first | exact (Kd.C_below HR341_0.out HB.out) | (with_reducible refine Kd.C_alloc ?_ _) | (with_reducible refine Kd.C_drewN ?_ _) | (with_reducible refine Kd.C_drew ?_))); (case side2 => exact HC341_0.out); rintro e w22 ⟨v344, rfl, ho0, hb⟩; refine ⟨_, rfl, ?_⟩; have n0_ := Aside0.mk (Kd.R_lower ho0 (below_size (by repeat (first | (with_reducible first | exact HB.out | apply below_alloc | apply pw_below_drewN | apply below_drew1 | refine below_set ?_ GE339.out) | exact HB.out)))); have n1_ := Aside0.mk (blk_below (g := gb339) (o := .cells #[.bool x340000_2, .int .i64 x340001_2, .int .i64 x340002_2, .int .i64 x340003_2] 24 (0, 0)) (by (with_reducible repeat (first | refine blk_drewN ?_ _ | refine blk_drew ?_ | refine blk_alloc ?_ _)); exact BK339.out) hb); have n2_ := Aside0.mk (below_step (by repeat (first | (with_reducible first | exact HB.out | apply below_alloc | apply pw_below_drewN | apply below_drew1 | refine below_set ?_ GE339.out) | exact HB.out)) hb); clear BK339; clear HB; have HO345 := n0_; have BK339 := n1_; have HB := n2_; clear n0_ n1_ n2_; (try clear hb); (try clear hb2); (try clear hk); (try clear hi); (try clear ho0)))
                    (try simp only [Act.put, List.setIfInBounds_toArray, List.set_cons_zero, List.set_cons_succ])
                    go_cut [81] (fun v81 wc => ∃ (kq : Nat) (x81_20 : Bool), v81 = .bool x81_20 ∧ Aside0 (phaetonlaw16_TrustRow.j2 kq a0 l1 l2 t334 (wrap64 ((Int.tmod (wrap64 (a3)) 14) + 1)) x12_2 x13_2 t342 x81_20 x340000_2 x340001_2 x340002_2 x340003_2 = some r) ∧ Aside0 (kq ≤ k2) ∧ Aside0 (Kd.R (Kd.int .u8) 5 wc w.heap.size (fun _ => True) v344 t342) ∧ Aside0 (wc.heap[gb339]? = some (.cells #[.bool x340000_2, .int .i64 x340001_2, .int .i64 x340002_2, .int .i64 x340003_2] 24 (0, 0))) ∧ Aside0 (Below w.heap.size w wc))
                    case first => as_aux_lemma =>
                      have H := HC21.out
                      clear HC21
                      by_cases c23 : x13_2 < (l2.length : Int)
                      · rw [if_pos c23] at H
                        have c23b0 : decide (x13_2 < (l2.length : Int)) = true := decide_eq_true c23
                        clear c23
                        (first | rw [c23b0] | (simp only [i64_w, i32_w]; rw [c23b0]) | skip)
                        by_cases c24 : (Int.tmod (rd l2 x13_2) 3) = 1
                        · rw [if_pos c24] at H
                          have c24b0 : ((Int.tmod (rd l2 x13_2) 3) == 1) = true := beq_iff_eq.mpr c24
                          have c24b1 : ((Int.tmod (rd l2 x13_2) 3) != 1) = false := bne_eq_false_iff_eq.mpr c24
                          clear c24
                          by_cases c25 : (wrap64 (x12_2 + 2)) ≤ (wrap64 ((Int.tmod (wrap64 (a3)) 14) + 1))
                          · rw [if_pos c25] at H
                            have c25b0 : decide ((wrap64 (x12_2 + 2)) ≤ (wrap64 ((Int.tmod (wrap64 (a3)) 14) + 1))) = true := decide_eq_true c25
                            clear c25
                            have H' := Aside0.mk H
                            clear H
                            have p346 : 0 ≤ (x13_2 : Int) := of_decide_eq_true (by first | (with_reducible assumption) | assumption)
                            have q346 : x13_2 < (l2.length : Int) := of_decide_eq_true (by first | (with_reducible assumption) | assumption)
                            obtain ⟨ad346, e346, hx346_0⟩ := Kd.at_int HR2.out x13_2 p346 q346
                            cases e346
                            replace hx346_0 := (HB.out.cell (World.block_lt_of_cell? w _ hx346_0)).trans hx346_0
                            replace p346 := eq_true p346
                            replace q346 := eq_true q346
                            have hcz26_0 : w22.cell? ⟨gb339, 0, none⟩ = some (.bool x340000_2) := (blk_cell BK339.out 0).trans rfl
                            have hcz26_1 : w22.cell? ⟨gb339, 1, none⟩ = some (.int .i64 x340001_2) := (blk_cell BK339.out 1).trans rfl
                            have hcz26_2 : w22.cell? ⟨gb339, 2, none⟩ = some (.int .i64 x340002_2) := (blk_cell BK339.out 2).trans rfl
                            have hcz26_3 : w22.cell? ⟨gb339, 3, none⟩ = some (.int .i64 x340003_2) := (blk_cell BK339.out 3).trans rfl
                            have hfz26_0 := blk_frozen BK339.out 0
                            have hfz26_1 := blk_frozen BK339.out 1
                            have hfz26_2 := blk_frozen BK339.out 2
                            have hfz26_3 := blk_frozen BK339.out 3
                            go_wp2
                            go_meet
                            case rel => exact ⟨_, (x340000_2), (by first | rfl | (simp; done) | (simp [*]; done)), H', ⟨by have := HJ5.out; have := HK2.out; first | omega | exact Nat.le_refl _⟩, ⟨by (with_reducible repeat (first | apply Kd.R_alloc | apply Kd.R_drewN | apply Kd.R_drew)); exact HO345.out⟩, ⟨by (with_reducible repeat (first | refine blk_drewN ?_ _ | refine blk_drew ?_ | refine blk_alloc ?_ _)); exact BK339.out⟩, ⟨by repeat (first | (with_reducible first | exact HB.out | apply below_alloc | apply pw_below_drewN | apply below_drew1 | refine below_set ?_ GE339.out) | exact HB.out)⟩⟩
                          · rw [if_neg c25] at H
                            have c25b0 : decide ((wrap64 (x12_2 + 2)) ≤ (wrap64 ((Int.tmod (wrap64 (a3)) 14) + 1))) = false := decide_eq_false c25
                            clear c25
                            have H' := Aside0.mk H
                            clear H
                            have p346 : 0 ≤ (x13_2 : Int) := of_decide_eq_true (by first | (with_reducible assumption) | assumption)
                            have q346 : x13_2 < (l2.length : Int) := of_decide_eq_true (by first | (with_reducible assumption) | assumption)
                            obtain ⟨ad346, e346, hx346_0⟩ := Kd.at_int HR2.out x13_2 p346 q346
                            cases e346
                            replace hx346_0 := (HB.out.cell (World.block_lt_of_cell? w _ hx346_0)).trans hx346_0
                            replace p346 := eq_true p346
                            replace q346 := eq_true q346
                            go_wp2
                            go_meet
                            case rel => exact ⟨_, (false), (by first | rfl | (simp; done) | (simp [*]; done)), H', ⟨by have := HJ5.out; have := HK2.out; first | omega | exact Nat.le_refl _⟩, ⟨by (with_reducible repeat (first | apply Kd.R_alloc | apply Kd.R_drewN | apply Kd.R_drew)); exact HO345.out⟩, ⟨by (with_reducible repeat (first | refine blk_drewN ?_ _ | refine blk_drew ?_ | refine blk_alloc ?_ _)); exact BK339.out⟩, ⟨by repeat (first | (with_reducible first | exact HB.out | apply below_alloc | apply pw_below_drewN | apply below_drew1 | refine below_set ?_ GE339.out) | exact HB.out)⟩⟩
                        · rw [if_neg c24] at H
                          have c24b0 : ((Int.tmod (rd l2 x13_2) 3) == 1) = false := beq_eq_false_iff_ne.mpr c24
                          have c24b1 : ((Int.tmod (rd l2 x13_2) 3) != 1) = true := bne_iff_ne.mpr c24
                          have H' := Aside0.mk H
                          clear H
                          have p346 : 0 ≤ (x13_2 : Int) := of_decide_eq_true (by first | (with_reducible assumption) | assumption)
                          have q346 : x13_2 < (l2.length : Int) := of_decide_eq_true (by first | (with_reducible assumption) | assumption)
                          obtain ⟨ad346, e346, hx346_0⟩ := Kd.at_int HR2.out x13_2 p346 q346
                          cases e346
                          replace hx346_0 := (HB.out.cell (World.block_lt_of_cell? w _ hx346_0)).trans hx346_0
                          replace p346 := eq_true p346
                          replace q346 := eq_true q346
                          go_wp2
                          go_meet
                          case rel => exact ⟨_, (false), (by first | rfl | (simp; done) | (simp [*]; done)), H', ⟨by have := HJ5.out; have := HK2.out; first | omega | exact Nat.le_refl _⟩, ⟨by (with_reducible repeat (first | apply Kd.R_alloc | apply Kd.R_drewN | apply Kd.R_drew)); exact HO345.out⟩, ⟨by (with_reducible repeat (first | refine blk_drewN ?_ _ | refine blk_drew ?_ | refine blk_alloc ?_ _)); exact BK339.out⟩, ⟨by repeat (first | (with_reducible first | exact HB.out | apply below_alloc | apply pw_below_drewN | apply below_drew1 | refine below_set ?_ GE339.out) | exact HB.out)⟩⟩
                      · rw [if_neg c23] at H
                        exact absurd H (by simp)
                    case rest => as_aux_lemma =>
                      clear HC21
                      try clear c1
                      try clear c2
                      try clear p2
                      try clear c3
                      try clear p3
                      try clear q3
                      try clear hx3
                      try clear p6
                      try clear c7
                      try clear c8
                      try clear c8b0
                      try clear c8b1
                      try clear c9
                      try clear c10
                      try clear c11
                      try clear c15
                      try clear c15b0
                      try clear c16
                      try clear c16b0
                      try clear c17
                      try clear c17b0
                      try clear c17b1
                      try clear c18
                      try clear c20
                      try clear c23
                      try clear c23b0
                      try clear c24
                      try clear c24b0
                      try clear c24b1
                      try clear c25
                      try clear c25b0
                      try clear hcz14_0
                      try clear hcz14_1
                      try clear hcz14_2
                      try clear hcz14_3
                      try clear hcz26_0
                      try clear hcz26_1
                      try clear hcz26_2
                      try clear hcz26_3
                      try clear hfz14_0
                      try clear hfz14_1
                      try clear hfz14_2
                      try clear hfz14_3
                      try clear hfz26_0
                      try clear hfz26_1
                      try clear hfz26_2
                      try clear hfz26_3
                      try clear hx340_0
                      try clear hx341_0
                      try clear hx346_0
                      try clear p2
                      try clear p340
                      try clear p341
                      try clear p346
                      try clear p6
                      try clear q340
                      try clear q341
                      try clear q346
                      obtain ⟨kq, x81_20, rfl, HA, HJ20, HO_14, BK339, HB⟩ := hcut
                      cases kq with
                      | zero => exact absurd HA.out (by simp [phaetonlaw16_TrustRow.j2])
                      | succ kj20 =>
                        have H := HA.out
                        clear HA
                        simp only [phaetonlaw16_TrustRow.j2] at H
                        by_cases c27 : x81_20 = true
                        · subst c27
                          have H1 : (phaetonlaw16_TrustRow.l0 kj20 a0 l1 l2 t334 (wrap64 ((Int.tmod (wrap64 (a3)) 14) + 1)) (wrap64 (x12_2 + 1)) (wrap64 (x13_2 + 1)) x340000_2 x340001_2 x340002_2 x340003_2) = some r := by rw [if_pos rfl] at H; exact H
                          clear H
                          have H := H1
                          clear H1
                          have H' := Aside0.mk H
                          clear H
                          go_wp2
                          go_roundg kj20
                          case measure => have := HJ5.out; have := HK2.out; have := HJ20.out; omega
                          case rel => exact ⟨(wrap64 (x12_2 + 1)), (wrap64 (x13_2 + 1)), (x340000_2), (x340001_2), (x340002_2), (x340003_2), (by first | rfl | (simp; done) | (simp [*]; done)), (by first | rfl | (simp; done) | (simp [*]; done)), H', ⟨by have := HJ5.out; have := HK2.out; have := HJ20.out; omega⟩, ⟨by (with_reducible repeat (first | refine blk_drewN ?_ _ | refine blk_drew ?_ | refine blk_alloc ?_ _)); exact BK339.out⟩, ⟨by repeat (first | (with_reducible first | exact HB.out | apply below_alloc | apply pw_below_drewN | apply below_drew1 | refine below_set ?_ GE339.out) | exact HB.out)⟩⟩
                        · replace c27 := Bool.eq_false_iff.mpr c27
                          subst c27
                          have H1 : ((trust_Check.f x340000_2 x340001_2 x340002_2 x340003_2 (wrap64 (a0)) t342 (wrap64 ((Int.tmod (wrap64 (a3)) 14) + 1))).bind fun bt347 => (if 0 ≤ x13_2 then (if x13_2 < (l1.length : Int) then ((phaetonref01_SameBytes.f bt347.2.2.2.2.1 (rd_L1 l1 x13_2)).bind fun t357 => (if t357 = true then (if x340000_2 = true then (if x12_2 = 0 then (if bt347.2.2.2.2.2 = 1 then (if x12_2 > 0 then (if bt347.2.2.2.2.2 = 4 then (phaetonlaw16_TrustRow.j3 kj20 a0 l1 l2 t334 (wrap64 ((Int.tmod (wrap64 (a3)) 14) + 1)) x13_2 t342 (bt347.2.2.2.1 != 0) bt347.1 bt347.2.1 bt347.2.2.1 bt347.2.2.2.1) else (phaetonlaw16_TrustRow.j3 kj20 a0 l1 l2 t334 (wrap64 ((Int.tmod (wrap64 (a3)) 14) + 1)) x13_2 t342 true bt347.1 bt347.2.1 bt347.2.2.1 bt347.2.2.2.1)) else (phaetonlaw16_TrustRow.j3 kj20 a0 l1 l2 t334 (wrap64 ((Int.tmod (wrap64 (a3)) 14) + 1)) x13_2 t342 (bt347.2.2.2.1 != 0) bt347.1 bt347.2.1 bt347.2.2.1 bt347.2.2.2.1)) else (phaetonlaw16_TrustRow.j3 kj20 a0 l1 l2 t334 (wrap64 ((Int.tmod (wrap64 (a3)) 14) + 1)) x13_2 t342 true bt347.1 bt347.2.1 bt347.2.2.1 bt347.2.2.2.1)) else (if x12_2 > 0 then (if bt347.2.2.2.2.2 = 4 then (phaetonlaw16_TrustRow.j3 kj20 a0 l1 l2 t334 (wrap64 ((Int.tmod (wrap64 (a3)) 14) + 1)) x13_2 t342 (bt347.2.2.2.1 != 0) bt347.1 bt347.2.1 bt347.2.2.1 bt347.2.2.2.1) else (phaetonlaw16_TrustRow.j3 kj20 a0 l1 l2 t334 (wrap64 ((Int.tmod (wrap64 (a3)) 14) + 1)) x13_2 t342 true bt347.1 bt347.2.1 bt347.2.2.1 bt347.2.2.2.1)) else (phaetonlaw16_TrustRow.j3 kj20 a0 l1 l2 t334 (wrap64 ((Int.tmod (wrap64 (a3)) 14) + 1)) x13_2 t342 (bt347.2.2.2.1 != 0) bt347.1 bt347.2.1 bt347.2.2.1 bt347.2.2.2.1))) else (if bt347.2.2.2.2.2 = 2 then (phaetonlaw16_TrustRow.j3 kj20 a0 l1 l2 t334 (wrap64 ((Int.tmod (wrap64 (a3)) 14) + 1)) x13_2 t342 (bt347.2.2.2.1 != 0) bt347.1 bt347.2.1 bt347.2.2.1 bt347.2.2.2.1) else (phaetonlaw16_TrustRow.j3 kj20 a0 l1 l2 t334 (wrap64 ((Int.tmod (wrap64 (a3)) 14) + 1)) x13_2 t342 true bt347.1 bt347.2.1 bt347.2.2.1 bt347.2.2.2.1))) else (phaetonlaw16_TrustRow.j3 kj20 a0 l1 l2 t334 (wrap64 ((Int.tmod (wrap64 (a3)) 14) + 1)) x13_2 t342 true bt347.1 bt347.2.1 bt347.2.2.1 bt347.2.2.2.1))) else (none)) else (none))) = some r := by rw [if_neg (show ¬ (false = true) by decide)] at H; exact H
                          clear H
                          have H := H1
                          clear H1
                          replace H := Option.bind_eq_some_iff.mp H
                          obtain ⟨⟨t347, t348, t349, t350, t351, t354⟩, A280, H⟩ := H
                          replace H : (if 0 ≤ x13_2 then (if x13_2 < (l1.length : Int) then ((phaetonref01_SameBytes.f t351 (rd_L1 l1 x13_2)).bind fun t357 => (if t357 = true then (if x340000_2 = true then (if x12_2 = 0 then (if t354 = 1 then (if x12_2 > 0 then (if t354 = 4 then (phaetonlaw16_TrustRow.j3 kj20 a0 l1 l2 t334 (wrap64 ((Int.tmod (wrap64 (a3)) 14) + 1)) x13_2 t342 (t350 != 0) t347 t348 t349 t350) else (phaetonlaw16_TrustRow.j3 kj20 a0 l1 l2 t334 (wrap64 ((Int.tmod (wrap64 (a3)) 14) + 1)) x13_2 t342 true t347 t348 t349 t350)) else (phaetonlaw16_TrustRow.j3 kj20 a0 l1 l2 t334 (wrap64 ((Int.tmod (wrap64 (a3)) 14) + 1)) x13_2 t342 (t350 != 0) t347 t348 t349 t350)) else (phaetonlaw16_TrustRow.j3 kj20 a0 l1 l2 t334 (wrap64 ((Int.tmod (wrap64 (a3)) 14) + 1)) x13_2 t342 true t347 t348 t349 t350)) else (if x12_2 > 0 then (if t354 = 4 then (phaetonlaw16_TrustRow.j3 kj20 a0 l1 l2 t334 (wrap64 ((Int.tmod (wrap64 (a3)) 14) + 1)) x13_2 t342 (t350 != 0) t347 t348 t349 t350) else (phaetonlaw16_TrustRow.j3 kj20 a0 l1 l2 t334 (wrap64 ((Int.tmod (wrap64 (a3)) 14) + 1)) x13_2 t342 true t347 t348 t349 t350)) else (phaetonlaw16_TrustRow.j3 kj20 a0 l1 l2 t334 (wrap64 ((Int.tmod (wrap64 (a3)) 14) + 1)) x13_2 t342 (t350 != 0) t347 t348 t349 t350))) else (if t354 = 2 then (phaetonlaw16_TrustRow.j3 kj20 a0 l1 l2 t334 (wrap64 ((Int.tmod (wrap64 (a3)) 14) + 1)) x13_2 t342 (t350 != 0) t347 t348 t349 t350) else (phaetonlaw16_TrustRow.j3 kj20 a0 l1 l2 t334 (wrap64 ((Int.tmod (wrap64 (a3)) 14) + 1)) x13_2 t342 true t347 t348 t349 t350))) else (phaetonlaw16_TrustRow.j3 kj20 a0 l1 l2 t334 (wrap64 ((Int.tmod (wrap64 (a3)) 14) + 1)) x13_2 t342 true t347 t348 t349 t350))) else (none)) else (none)) = some r := H
                          have A28 := Aside0.mk A280
                          clear A280
                          have HC29 := Aside0.mk H
                          clear H
                          have hcz30_0 : wc.cell? ⟨gb339, 0, none⟩ = some (.bool x340000_2) := (blk_cell BK339.out 0).trans rfl
                          have hcz30_1 : wc.cell? ⟨gb339, 1, none⟩ = some (.int .i64 x340001_2) := (blk_cell BK339.out 1).trans rfl
                          have hcz30_2 : wc.cell? ⟨gb339, 2, none⟩ = some (.int .i64 x340002_2) := (blk_cell BK339.out 2).trans rfl
                          have hcz30_3 : wc.cell? ⟨gb339, 3, none⟩ = some (.int .i64 x340003_2) := (blk_cell BK339.out 3).trans rfl
                          have hfz30_0 := blk_frozen BK339.out 0
                          have hfz30_1 := blk_frozen BK339.out 1
                          have hfz30_2 := blk_frozen BK339.out 2
                          have hfz30_3 := blk_frozen BK339.out 3
                          obtain ⟨Ao31, co31, eo31⟩ := Kd.R_slice HO_14.out
                          subst eo31
                          go_upto_region 18 with (first | ((with_reducible refine gate_callee (f := 19) rfl ?_); refine goesL_ (some 90) rfl rfl Try.func19 (by kernel_rfl) rfl #[.agg #[.bool x340000_2, .int .i64 x340001_2, .int .i64 x340002_2, .int .i64 x340003_2], .int .i64 (wrap64 (a0)), .slice Ao31 t342.length co31, .int .i64 (wrap64 ((Int.tmod (wrap64 (a3)) 14) + 1))] rfl (by (try simp only [List.map_toArray, List.map_cons, List.map_nil]); first | done | rfl | (simp only [List.length_drop, List.length_take]; rfl)) ?_; (with_reducible refine (trust_Check.calls x340000_2 x340001_2 x340002_2 x340003_2 (wrap64 (a0)) _ _ t342 (wrap64 ((Int.tmod (wrap64 (a3)) 14) + 1)) t347 t348 t349 t350 t351 t354 _ ?side1 ?side2 A28.out).mono ?_); (case side1 => repeat (first | exact (Kd.R_reads' HO_14.out).2.2 | (with_reducible refine Kd.C_alloc ?_ _) | (with_reducible refine Kd.C_drewN ?_ _) | (with_reducible refine Kd.C_drew ?_))); (case side2 => exact (Kd.R_reads' HO_14.out).2.1); rintro e w32 ⟨v352, rfl, ho0, hb⟩; refine ⟨_, rfl, ?_⟩; have n0_ := Aside0.mk (Kd.R_elder' (by (with_reducible repeat (first | apply Kd.R_alloc | apply Kd.R_drewN | apply Kd.R_drew)); exact HO_14.out) (Kd.R_base ho0) hb); have n1_ := Aside0.mk (Kd.R_lower (Kd.R_new' ho0 (Kd.R_lt (by (with_reducible repeat (first | apply Kd.R_alloc | apply Kd.R_drewN | apply Kd.R_drew)); exact HO_14.out))) (below_size (by repeat (first | (with_reducible first | exact HB.out | apply below_alloc | apply pw_below_drewN | apply below_drew1 | refine below_set ?_ GE339.out) | exact HB.out)))); have n2_ := Aside0.mk (blk_below (g := gb339) (o := .cells #[.bool x340000_2, .int .i64 x340001_2, .int .i64 x340002_2, .int .i64 x340003_2] 24 (0, 0)) (by (with_reducible repeat (first | refine blk_drewN ?_ _ | refine blk_drew ?_ | refine blk_alloc ?_ _)); exact BK339.out) hb); have n3_ := Aside0.mk (below_step (by repeat (first | (with_reducible first | exact HB.out | apply below_alloc | apply pw_below_drewN | apply below_drew1 | refine below_set ?_ GE339.out) | exact HB.out)) hb); clear HO_14; clear BK339; clear HB; have HO_14 := n0_; have HO353 := n1_; have BK339 := n2_; have HB := n3_; clear n0_ n1_ n2_ n3_; (try clear hb); (try clear hb2); (try clear hk); (try clear hi); (try clear ho0)) | ((with_reducible refine gate_dst (N := 16) rfl ?_); (try (refine gate_guard (by rfl) ?_; dsimp only)); refine box_event ?hg (N := 16) ?hd (cs := #[.bool false, .int .i64 0, .int .i64 0, .int .i64 0]) (t := 24) ?hr ?_; (case hd => rfl); (case hg => rfl); (case hr => first | (go_simp; done) | (go_simp; rfl)); intro gb355 hg w33 hbox hb; have n0_ := Aside0.mk (Kd.R_below (by (with_reducible repeat (first | apply Kd.R_alloc | apply Kd.R_drewN | apply Kd.R_drew)); exact HO_14.out) hb); have n1_ := Aside0.mk (Kd.R_below (by (with_reducible repeat (first | apply Kd.R_alloc | apply Kd.R_drewN | apply Kd.R_drew)); exact HO353.out) hb); have n2_ := Aside0.mk (blk_below (g := gb339) (o := .cells #[.bool x340000_2, .int .i64 x340001_2, .int .i64 x340002_2, .int .i64 x340003_2] 24 (0, 0)) (by (with_reducible repeat (first | refine blk_drewN ?_ _ | refine blk_drew ?_ | refine blk_alloc ?_ _)); exact BK339.out) hb); have n3_ := Aside0.mk (below_step (by repeat (first | (with_reducible first | exact HB.out | apply below_alloc | apply pw_below_drewN | apply below_drew1 | refine below_set ?_ GE339.out) | exact HB.out)) hb); have n4_ := Aside0.mk (hbox); have n5_ := Aside0.mk ((by rw [hg]; exact (below_size (by repeat (first | (with_reducible first | exact HB.out | apply below_alloc | apply pw_below_drewN | apply below_drew1 | refine below_set ?_ GE339.out) | exact HB.out))) : w.heap.size ≤ gb355)); have n6_ := Aside0.mk ((by rw [hg]; exact (below_size (by repeat (first | (with_reducible first | exact HB.out | apply below_alloc | apply pw_below_drewN | apply below_drew1 | refine below_set ?_ GE339.out) | exact HB.out))) : w.heap.size ≤ gb355)); have n7_ := Aside0.mk ((by rw [hg]; exact Nat.ne_of_lt (blk_lt (g := gb339) (o := .cells #[.bool x340000_2, .int .i64 x340001_2, .int .i64 x340002_2, .int .i64 x340003_2] 24 (0, 0)) (by (with_reducible repeat (first | refine blk_drewN ?_ _ | refine blk_drew ?_ | refine blk_alloc ?_ _)); exact BK339.out)) : gb339 ≠ gb355)); have n8_ := Aside0.mk ((by rw [hg]; exact Nat.ne_of_gt (blk_lt (g := gb339) (o := .cells #[.bool x340000_2, .int .i64 x340001_2, .int .i64 x340002_2, .int .i64 x340003_2] 24 (0, 0)) (by (with_reducible repeat (first | refine blk_drewN ?_ _ | refine blk_drew ?_ | refine blk_alloc ?_ _)); exact BK339.out)) : gb355 ≠ gb339)); clear HO_14; clear HO353; clear BK339; clear HB; have HO_14 := n0_; have HO353 := n1_; have BK339 := n2_; have HB := n3_; have BK355 := n4_; have GW355 := n5_; have GE355 := n6_; have NB339_355 := n7_; have NB355_339 := n8_; clear n0_ n1_ n2_ n3_ n4_ n5_ n6_ n7_ n8_; clear hb hbox hg; have hnb34 := NB355_339.out; have hnc34 := NB339_355.out; have hcz35_0 : w33.cell? ⟨gb355, 0, none⟩ = some (.bool false) := (blk_cell BK355.out 0).trans rfl; have hcz35_1 : w33.cell? ⟨gb355, 1, none⟩ = some (.int .i64 0) := (blk_cell BK355.out 1).trans rfl; have hcz35_2 : w33.cell? ⟨gb355, 2, none⟩ = some (.int .i64 0) := (blk_cell BK355.out 2).trans rfl; have hcz35_3 : w33.cell? ⟨gb355, 3, none⟩ = some (.int .i64 0) := (blk_cell BK355.out 3).trans rfl; have hfz35_0 := blk_frozen BK355.out 0; have hfz35_1 := blk_frozen BK355.out 1; have hfz35_2 := blk_frozen BK355.out 2; have hfz35_3 := blk_frozen BK355.out 3))
                          (try simp only [Act.put, List.setIfInBounds_toArray, List.set_cons_zero, List.set_cons_succ])
                          go_cut [138] (fun v138 wc => ∃ (kq : Nat) (x138_28 : Bool), v138 = .bool x138_28 ∧ Aside0 (phaetonlaw16_TrustRow.j3 kq a0 l1 l2 t334 (wrap64 ((Int.tmod (wrap64 (a3)) 14) + 1)) x13_2 t342 x138_28 t347 t348 t349 t350 = some r) ∧ Aside0 (kq ≤ kj20) ∧ Aside0 (Kd.R (Kd.int .u8) 5 wc w.heap.size (fun _ => True) (.slice Ao31 t342.length co31) t342) ∧ Aside0 (wc.heap[gb339]? = some (.cells #[.bool x340000_2, .int .i64 x340001_2, .int .i64 x340002_2, .int .i64 x340003_2] 24 (0, 0))) ∧ Aside0 (wc.heap[gb355]? = some (.cells #[.bool t347, .int .i64 t348, .int .i64 t349, .int .i64 t350] 24 (0, 0))) ∧ Aside0 (Below w.heap.size w wc))
                          case first => as_aux_lemma =>
                            have H := HC29.out
                            clear HC29
                            by_cases c36 : 0 ≤ x13_2
                            · rw [if_pos c36] at H
                              have c36b0 : decide (0 ≤ x13_2) = true := decide_eq_true c36
                              clear c36
                              (first | rw [c36b0] | (simp only [i64_w, i32_w]; rw [c36b0]) | skip)
                              by_cases c37 : x13_2 < (l1.length : Int)
                              · rw [if_pos c37] at H
                                have c37b0 : decide (x13_2 < (l1.length : Int)) = true := decide_eq_true c37
                                clear c37
                                replace H := Option.bind_eq_some_iff.mp H
                                obtain ⟨t357, A380, H⟩ := H
                                replace H : (if t357 = true then (if x340000_2 = true then (if x12_2 = 0 then (if t354 = 1 then (if x12_2 > 0 then (if t354 = 4 then (phaetonlaw16_TrustRow.j3 kj20 a0 l1 l2 t334 (wrap64 ((Int.tmod (wrap64 (a3)) 14) + 1)) x13_2 t342 (t350 != 0) t347 t348 t349 t350) else (phaetonlaw16_TrustRow.j3 kj20 a0 l1 l2 t334 (wrap64 ((Int.tmod (wrap64 (a3)) 14) + 1)) x13_2 t342 true t347 t348 t349 t350)) else (phaetonlaw16_TrustRow.j3 kj20 a0 l1 l2 t334 (wrap64 ((Int.tmod (wrap64 (a3)) 14) + 1)) x13_2 t342 (t350 != 0) t347 t348 t349 t350)) else (phaetonlaw16_TrustRow.j3 kj20 a0 l1 l2 t334 (wrap64 ((Int.tmod (wrap64 (a3)) 14) + 1)) x13_2 t342 true t347 t348 t349 t350)) else (if x12_2 > 0 then (if t354 = 4 then (phaetonlaw16_TrustRow.j3 kj20 a0 l1 l2 t334 (wrap64 ((Int.tmod (wrap64 (a3)) 14) + 1)) x13_2 t342 (t350 != 0) t347 t348 t349 t350) else (phaetonlaw16_TrustRow.j3 kj20 a0 l1 l2 t334 (wrap64 ((Int.tmod (wrap64 (a3)) 14) + 1)) x13_2 t342 true t347 t348 t349 t350)) else (phaetonlaw16_TrustRow.j3 kj20 a0 l1 l2 t334 (wrap64 ((Int.tmod (wrap64 (a3)) 14) + 1)) x13_2 t342 (t350 != 0) t347 t348 t349 t350))) else (if t354 = 2 then (phaetonlaw16_TrustRow.j3 kj20 a0 l1 l2 t334 (wrap64 ((Int.tmod (wrap64 (a3)) 14) + 1)) x13_2 t342 (t350 != 0) t347 t348 t349 t350) else (phaetonlaw16_TrustRow.j3 kj20 a0 l1 l2 t334 (wrap64 ((Int.tmod (wrap64 (a3)) 14) + 1)) x13_2 t342 true t347 t348 t349 t350))) else (phaetonlaw16_TrustRow.j3 kj20 a0 l1 l2 t334 (wrap64 ((Int.tmod (wrap64 (a3)) 14) + 1)) x13_2 t342 true t347 t348 t349 t350)) = some r := H
                                have A38 := Aside0.mk A380
                                clear A380
                                by_cases c39 : t357 = true
                                · subst c39
                                  have H1 : (if x340000_2 = true then (if x12_2 = 0 then (if t354 = 1 then (if x12_2 > 0 then (if t354 = 4 then (phaetonlaw16_TrustRow.j3 kj20 a0 l1 l2 t334 (wrap64 ((Int.tmod (wrap64 (a3)) 14) + 1)) x13_2 t342 (t350 != 0) t347 t348 t349 t350) else (phaetonlaw16_TrustRow.j3 kj20 a0 l1 l2 t334 (wrap64 ((Int.tmod (wrap64 (a3)) 14) + 1)) x13_2 t342 true t347 t348 t349 t350)) else (phaetonlaw16_TrustRow.j3 kj20 a0 l1 l2 t334 (wrap64 ((Int.tmod (wrap64 (a3)) 14) + 1)) x13_2 t342 (t350 != 0) t347 t348 t349 t350)) else (phaetonlaw16_TrustRow.j3 kj20 a0 l1 l2 t334 (wrap64 ((Int.tmod (wrap64 (a3)) 14) + 1)) x13_2 t342 true t347 t348 t349 t350)) else (if x12_2 > 0 then (if t354 = 4 then (phaetonlaw16_TrustRow.j3 kj20 a0 l1 l2 t334 (wrap64 ((Int.tmod (wrap64 (a3)) 14) + 1)) x13_2 t342 (t350 != 0) t347 t348 t349 t350) else (phaetonlaw16_TrustRow.j3 kj20 a0 l1 l2 t334 (wrap64 ((Int.tmod (wrap64 (a3)) 14) + 1)) x13_2 t342 true t347 t348 t349 t350)) else (phaetonlaw16_TrustRow.j3 kj20 a0 l1 l2 t334 (wrap64 ((Int.tmod (wrap64 (a3)) 14) + 1)) x13_2 t342 (t350 != 0) t347 t348 t349 t350))) else (if t354 = 2 then (phaetonlaw16_TrustRow.j3 kj20 a0 l1 l2 t334 (wrap64 ((Int.tmod (wrap64 (a3)) 14) + 1)) x13_2 t342 (t350 != 0) t347 t348 t349 t350) else (phaetonlaw16_TrustRow.j3 kj20 a0 l1 l2 t334 (wrap64 ((Int.tmod (wrap64 (a3)) 14) + 1)) x13_2 t342 true t347 t348 t349 t350))) = some r := by rw [if_pos rfl] at H; exact H
                                  clear H
                                  have H := H1
                                  clear H1
                                  by_cases c40 : x340000_2 = true
                                  · subst c40
                                    have H1 : (if x12_2 = 0 then (if t354 = 1 then (if x12_2 > 0 then (if t354 = 4 then (phaetonlaw16_TrustRow.j3 kj20 a0 l1 l2 t334 (wrap64 ((Int.tmod (wrap64 (a3)) 14) + 1)) x13_2 t342 (t350 != 0) t347 t348 t349 t350) else (phaetonlaw16_TrustRow.j3 kj20 a0 l1 l2 t334 (wrap64 ((Int.tmod (wrap64 (a3)) 14) + 1)) x13_2 t342 true t347 t348 t349 t350)) else (phaetonlaw16_TrustRow.j3 kj20 a0 l1 l2 t334 (wrap64 ((Int.tmod (wrap64 (a3)) 14) + 1)) x13_2 t342 (t350 != 0) t347 t348 t349 t350)) else (phaetonlaw16_TrustRow.j3 kj20 a0 l1 l2 t334 (wrap64 ((Int.tmod (wrap64 (a3)) 14) + 1)) x13_2 t342 true t347 t348 t349 t350)) else (if x12_2 > 0 then (if t354 = 4 then (phaetonlaw16_TrustRow.j3 kj20 a0 l1 l2 t334 (wrap64 ((Int.tmod (wrap64 (a3)) 14) + 1)) x13_2 t342 (t350 != 0) t347 t348 t349 t350) else (phaetonlaw16_TrustRow.j3 kj20 a0 l1 l2 t334 (wrap64 ((Int.tmod (wrap64 (a3)) 14) + 1)) x13_2 t342 true t347 t348 t349 t350)) else (phaetonlaw16_TrustRow.j3 kj20 a0 l1 l2 t334 (wrap64 ((Int.tmod (wrap64 (a3)) 14) + 1)) x13_2 t342 (t350 != 0) t347 t348 t349 t350))) = some r := by rw [if_pos rfl] at H; exact H
                                    clear H
                                    have H := H1
                                    clear H1
                                    by_cases c41 : x12_2 = 0
                                    · rw [if_pos c41] at H
                                      have c41b0 : (x12_2 == 0) = true := beq_iff_eq.mpr c41
                                      have c41b1 : (x12_2 != 0) = false := bne_eq_false_iff_eq.mpr c41
                                      clear c41
                                      by_cases c42 : t354 = 1
                                      · rw [if_pos c42] at H
                                        have c42b0 : (t354 == 1) = true := beq_iff_eq.mpr c42
                                        have c42b1 : (t354 != 1) = false := bne_eq_false_iff_eq.mpr c42
                                        clear c42
                                        by_cases c43 : x12_2 > 0
                                        · exfalso; (try simp only [decide_eq_true_eq, decide_eq_false_iff_not, beq_iff_eq, beq_eq_false_iff_ne, ne_eq] at c41b0); omega
                                        · rw [if_neg c43] at H
                                          have c43b0 : decide (0 < x12_2) = false := decide_eq_false c43
                                          clear c43
                                          have H' := Aside0.mk H
                                          clear H
                                          have p356 : 0 ≤ (x13_2 : Int) := of_decide_eq_true (by first | (with_reducible assumption) | assumption)
                                          have q356 : x13_2 < (l1.length : Int) := of_decide_eq_true (by first | (with_reducible assumption) | assumption)
                                          obtain ⟨ad356, A356_0, c356_0, e356, hx356_0, hl356_0, hi356_0⟩ := at_L1 HR1.out x13_2 p356 q356
                                          obtain rfl : ad340 = ad356 := (by injection e356)
                                          have hn356_0 : ad340.block ≠ gb355 := Nat.ne_of_lt (Nat.lt_of_lt_of_le (by have := World.block_lt_of_cell? _ _ hx356_0; first | rwa [add_block] at this | exact this) GW355.out)
                                          have hn356_1 : ad340.block ≠ gb355 := Nat.ne_of_lt (Nat.lt_of_lt_of_le (by have := World.block_lt_of_cell? _ _ hx356_0; first | rwa [add_block] at this | exact this) GW355.out)
                                          have hn356_2 : ad340.block ≠ gb355 := Nat.ne_of_lt (Nat.lt_of_lt_of_le (by have := World.block_lt_of_cell? _ _ hx356_0; first | rwa [add_block] at this | exact this) GW355.out)
                                          have hn356_3 : ad340.block ≠ gb355 := Nat.ne_of_lt (Nat.lt_of_lt_of_le (by have := World.block_lt_of_cell? _ _ hx356_0; first | rwa [add_block] at this | exact this) GW355.out)
                                          replace hx356_0 := (HB.out.cell (World.block_lt_of_cell? w _ hx356_0)).trans hx356_0
                                          have HR356_0 := Aside0.mk hi356_0
                                          have HC356_0 := Aside0.mk hl356_0
                                          clear hi356_0 hl356_0
                                          replace hx356_0 := (cell_far (p := ⟨gb355, 0, none⟩) (by first | (rw [add_block]; exact hn356_0) | (show (Addr.add _ _).block ≠ _; rw [add_block]; exact hn356_0) | exact hn356_0) (.bool t347)).trans hx356_0
                                          replace hx356_0 := (cell_far (p := ⟨gb355, 1, none⟩) (by first | (rw [add_block]; exact hn356_1) | (show (Addr.add _ _).block ≠ _; rw [add_block]; exact hn356_1) | exact hn356_1) (.int .i64 t348)).trans hx356_0
                                          replace hx356_0 := (cell_far (p := ⟨gb355, 2, none⟩) (by first | (rw [add_block]; exact hn356_2) | (show (Addr.add _ _).block ≠ _; rw [add_block]; exact hn356_2) | exact hn356_2) (.int .i64 t349)).trans hx356_0
                                          replace hx356_0 := (cell_far (p := ⟨gb355, 3, none⟩) (by first | (rw [add_block]; exact hn356_3) | (show (Addr.add _ _).block ≠ _; rw [add_block]; exact hn356_3) | exact hn356_3) (.int .i64 t350)).trans hx356_0
                                          clear hn356_0
                                          clear hn356_1
                                          clear hn356_2
                                          clear hn356_3
                                          replace p356 := eq_true p356
                                          replace q356 := eq_true q356
                                          obtain ⟨Ao52, co52, eo52⟩ := Kd.R_slice HO353.out
                                          subst eo52
                                          go_wp2_with (first | ((with_reducible refine gate_store (t := 24) (p := 16) rfl ?_); refine HW.store_box2 rfl rfl 24 _ _ rfl rfl rfl BK355.out rfl (by kernel_rfl) (by intro q hq; simp only [List.mem_cons, List.not_mem_nil, or_false] at hq; rcases hq with rfl | rfl | rfl | rfl <;> rfl) ?_; intro w1_ hw1_ hk1_; simp only [List.toList_toArray, World.setCells, Nat.zero_add, Nat.reduceAdd] at hw1_; subst hw1_; have hcb355_0 := (blk_cell hk1_ 0).trans rfl; have hfb355_0 := blk_frozen hk1_ 0; have hcb355_1 := (blk_cell hk1_ 1).trans rfl; have hfb355_1 := blk_frozen hk1_ 1; have hcb355_2 := (blk_cell hk1_ 2).trans rfl; have hfb355_2 := blk_frozen hk1_ 2; have hcb355_3 := (blk_cell hk1_ 3).trans rfl; have hfb355_3 := blk_frozen hk1_ 3; clear hk1_) | ((with_reducible refine gate_store (t := 24) (p := 11) rfl ?_); refine HW.store_box2 rfl rfl 24 _ _ rfl rfl rfl BK339.out rfl (by kernel_rfl) (by intro q hq; simp only [List.mem_cons, List.not_mem_nil, or_false] at hq; rcases hq with rfl | rfl | rfl | rfl <;> rfl) ?_; intro w1_ hw1_ hk1_; simp only [List.toList_toArray, World.setCells, Nat.zero_add, Nat.reduceAdd] at hw1_; subst hw1_; have hcb339_0 := (blk_cell hk1_ 0).trans rfl; have hfb339_0 := blk_frozen hk1_ 0; have hcb339_1 := (blk_cell hk1_ 1).trans rfl; have hfb339_1 := blk_frozen hk1_ 1; have hcb339_2 := (blk_cell hk1_ 2).trans rfl; have hfb339_2 := blk_frozen hk1_ 2; have hcb339_3 := (blk_cell hk1_ 3).trans rfl; have hfb339_3 := blk_frozen hk1_ 3; clear hk1_) | ((with_reducible refine gate_callee (f := 15) rfl ?_); refine goesL_ (some 99) rfl rfl Try.func15 (by kernel_rfl) rfl #[.slice Ao52 t351.length co52, .slice A356_0 (rd_L1 l1 x13_2).length c356_0] rfl (by (try simp only [List.map_toArray, List.map_cons, List.map_nil]); first | done | rfl | (simp only [List.length_drop, List.length_take]; rfl)) ?_; (with_reducible refine (phaetonref01_SameBytes.calls _ _ t351 _ _ (rd_L1 l1 x13_2) true _ ?side1 ?side2 ?side3 ?side4 A38.out).mono ?_); (case side1 => refine (Kd.R_reads' (e := 5) (base := w.heap.size) (ok := fun k_ => (True ∧ some k_ ≠ (.slice Ao31 t342.length co31 : Value).ownBlock)) (n := t351.length) (c := co52) ?_).2.2; exact (by (with_reducible repeat (first | apply Kd.R_alloc | apply Kd.R_drewN | apply Kd.R_drew)); exact (Kd.R_mono (Kd.R_far (p := ⟨gb355, 3, none⟩) (Kd.R_far (p := ⟨gb355, 2, none⟩) (Kd.R_far (p := ⟨gb355, 1, none⟩) (Kd.R_far (p := ⟨gb355, 0, none⟩) (Kd.R_types HO353.out BK355.out (by decide)) (fun _ hk => hk.2) (.bool t347)) (fun _ hk => hk.2) (.int .i64 t348)) (fun _ hk => hk.2) (.int .i64 t349)) (fun _ hk => hk.2) (.int .i64 t350)) (fun _ h_ => h_.1)))); (case side2 => exact (Kd.R_reads' HO353.out).2.1); (case side3 => exact Kd.C_below HR356_0.out (by repeat (first | (with_reducible first | exact HB.out | apply below_alloc | apply pw_below_drewN | apply below_drew1 | refine below_set ?_ GE339.out | refine below_set ?_ GE355.out) | exact HB.out))); (case side4 => exact HC356_0.out); rintro e w' ⟨rfl, ⟨nd, rfl⟩⟩; refine ⟨_, rfl, ?_⟩; have hnb53 := NB339_355.out; have hnc53 := NB355_339.out; have hcz54_0 : w33.cell? ⟨gb339, 0, none⟩ = some (.bool true) := (blk_cell BK339.out 0).trans rfl; have hcz54_1 : w33.cell? ⟨gb339, 1, none⟩ = some (.int .i64 x340001_2) := (blk_cell BK339.out 1).trans rfl; have hcz54_2 : w33.cell? ⟨gb339, 2, none⟩ = some (.int .i64 x340002_2) := (blk_cell BK339.out 2).trans rfl; have hcz54_3 : w33.cell? ⟨gb339, 3, none⟩ = some (.int .i64 x340003_2) := (blk_cell BK339.out 3).trans rfl; have hfz54_0 := blk_frozen BK339.out 0; have hfz54_1 := blk_frozen BK339.out 1; have hfz54_2 := blk_frozen BK339.out 2; have hfz54_3 := blk_frozen BK339.out 3; have hcz55_0 : w33.cell? ⟨gb355, 0, none⟩ = some (.bool false) := (blk_cell BK355.out 0).trans rfl; have hcz55_1 : w33.cell? ⟨gb355, 1, none⟩ = some (.int .i64 0) := (blk_cell BK355.out 1).trans rfl; have hcz55_2 : w33.cell? ⟨gb355, 2, none⟩ = some (.int .i64 0) := (blk_cell BK355.out 2).trans rfl; have hcz55_3 : w33.cell? ⟨gb355, 3, none⟩ = some (.int .i64 0) := (blk_cell BK355.out 3).trans rfl; have hfz55_0 := blk_frozen BK355.out 0; have hfz55_1 := blk_frozen BK355.out 1; have hfz55_2 := blk_frozen BK355.out 2; have hfz55_3 := blk_frozen BK355.out 3))
                                          go_meet
                                          case rel => exact ⟨_, ((t350 != 0)), (by first | rfl | (simp; done) | (simp [*]; done)), H', ⟨by have := HJ5.out; have := HK2.out; have := HJ20.out; first | omega | exact Nat.le_refl _⟩, ⟨by (with_reducible repeat (first | apply Kd.R_alloc | apply Kd.R_drewN | apply Kd.R_drew)); exact Kd.R_mono (Kd.R_far (p := ⟨gb355, 3, none⟩) (Kd.R_far (p := ⟨gb355, 2, none⟩) (Kd.R_far (p := ⟨gb355, 1, none⟩) (Kd.R_far (p := ⟨gb355, 0, none⟩) (Kd.R_types HO_14.out BK355.out (by decide)) (fun _ hk => hk.2) (.bool t347)) (fun _ hk => hk.2) (.int .i64 t348)) (fun _ hk => hk.2) (.int .i64 t349)) (fun _ hk => hk.2) (.int .i64 t350)) (fun _ hk => trivial)⟩, ⟨by (with_reducible repeat (first | refine blk_drewN ?_ _ | refine blk_drew ?_ | refine blk_alloc ?_ _)); refine blk_far ?_ NB339_355.out _; (with_reducible repeat (first | refine blk_drewN ?_ _ | refine blk_drew ?_ | refine blk_alloc ?_ _)); refine blk_far ?_ NB339_355.out _; (with_reducible repeat (first | refine blk_drewN ?_ _ | refine blk_drew ?_ | refine blk_alloc ?_ _)); refine blk_far ?_ NB339_355.out _; (with_reducible repeat (first | refine blk_drewN ?_ _ | refine blk_drew ?_ | refine blk_alloc ?_ _)); refine blk_far ?_ NB339_355.out _; (with_reducible repeat (first | refine blk_drewN ?_ _ | refine blk_drew ?_ | refine blk_alloc ?_ _)); exact BK339.out⟩, ⟨by (with_reducible repeat (first | refine blk_drewN ?_ _ | refine blk_drew ?_ | refine blk_alloc ?_ _)); refine blk_put (cs := #[.bool t347, .int .i64 t348, .int .i64 t349, .int .i64 0]) ?_ 3 _ rfl; (with_reducible repeat (first | refine blk_drewN ?_ _ | refine blk_drew ?_ | refine blk_alloc ?_ _)); refine blk_put (cs := #[.bool t347, .int .i64 t348, .int .i64 0, .int .i64 0]) ?_ 2 _ rfl; (with_reducible repeat (first | refine blk_drewN ?_ _ | refine blk_drew ?_ | refine blk_alloc ?_ _)); refine blk_put (cs := #[.bool t347, .int .i64 0, .int .i64 0, .int .i64 0]) ?_ 1 _ rfl; (with_reducible repeat (first | refine blk_drewN ?_ _ | refine blk_drew ?_ | refine blk_alloc ?_ _)); refine blk_put (cs := #[.bool false, .int .i64 0, .int .i64 0, .int .i64 0]) ?_ 0 _ rfl; (with_reducible repeat (first | refine blk_drewN ?_ _ | refine blk_drew ?_ | refine blk_alloc ?_ _)); exact BK355.out⟩, ⟨by repeat (first | (with_reducible first | exact HB.out | apply below_alloc | apply pw_below_drewN | apply below_drew1 | refine below_set ?_ GE339.out | refine below_set ?_ GE355.out) | exact HB.out)⟩⟩
                                      · rw [if_neg c42] at H
                                        have c42b0 : (t354 == 1) = false := beq_eq_false_iff_ne.mpr c42
                                        have c42b1 : (t354 != 1) = true := bne_iff_ne.mpr c42
                                        have H' := Aside0.mk H
                                        clear H
                                        have p356 : 0 ≤ (x13_2 : Int) := of_decide_eq_true (by first | (with_reducible assumption) | assumption)
                                        have q356 : x13_2 < (l1.length : Int) := of_decide_eq_true (by first | (with_reducible assumption) | assumption)
                                        obtain ⟨ad356, A356_0, c356_0, e356, hx356_0, hl356_0, hi356_0⟩ := at_L1 HR1.out x13_2 p356 q356
                                        obtain rfl : ad340 = ad356 := (by injection e356)
                                        have hn356_0 : ad340.block ≠ gb355 := Nat.ne_of_lt (Nat.lt_of_lt_of_le (by have := World.block_lt_of_cell? _ _ hx356_0; first | rwa [add_block] at this | exact this) GW355.out)
                                        have hn356_1 : ad340.block ≠ gb355 := Nat.ne_of_lt (Nat.lt_of_lt_of_le (by have := World.block_lt_of_cell? _ _ hx356_0; first | rwa [add_block] at this | exact this) GW355.out)
                                        have hn356_2 : ad340.block ≠ gb355 := Nat.ne_of_lt (Nat.lt_of_lt_of_le (by have := World.block_lt_of_cell? _ _ hx356_0; first | rwa [add_block] at this | exact this) GW355.out)
                                        have hn356_3 : ad340.block ≠ gb355 := Nat.ne_of_lt (Nat.lt_of_lt_of_le (by have := World.block_lt_of_cell? _ _ hx356_0; first | rwa [add_block] at this | exact this) GW355.out)
                                        replace hx356_0 := (HB.out.cell (World.block_lt_of_cell? w _ hx356_0)).trans hx356_0
                                        have HR356_0 := Aside0.mk hi356_0
                                        have HC356_0 := Aside0.mk hl356_0
                                        clear hi356_0 hl356_0
                                        replace hx356_0 := (cell_far (p := ⟨gb355, 0, none⟩) (by first | (rw [add_block]; exact hn356_0) | (show (Addr.add _ _).block ≠ _; rw [add_block]; exact hn356_0) | exact hn356_0) (.bool t347)).trans hx356_0
                                        replace hx356_0 := (cell_far (p := ⟨gb355, 1, none⟩) (by first | (rw [add_block]; exact hn356_1) | (show (Addr.add _ _).block ≠ _; rw [add_block]; exact hn356_1) | exact hn356_1) (.int .i64 t348)).trans hx356_0
                                        replace hx356_0 := (cell_far (p := ⟨gb355, 2, none⟩) (by first | (rw [add_block]; exact hn356_2) | (show (Addr.add _ _).block ≠ _; rw [add_block]; exact hn356_2) | exact hn356_2) (.int .i64 t349)).trans hx356_0
                                        replace hx356_0 := (cell_far (p := ⟨gb355, 3, none⟩) (by first | (rw [add_block]; exact hn356_3) | (show (Addr.add _ _).block ≠ _; rw [add_block]; exact hn356_3) | exact hn356_3) (.int .i64 t350)).trans hx356_0
                                        clear hn356_0
                                        clear hn356_1
                                        clear hn356_2
                                        clear hn356_3
                                        replace p356 := eq_true p356
                                        replace q356 := eq_true q356
                                        obtain ⟨Ao56, co56, eo56⟩ := Kd.R_slice HO353.out
                                        subst eo56
                                        go_wp2_with (first | ((with_reducible refine gate_store (t := 24) (p := 16) rfl ?_); refine HW.store_box2 rfl rfl 24 _ _ rfl rfl rfl BK355.out rfl (by kernel_rfl) (by intro q hq; simp only [List.mem_cons, List.not_mem_nil, or_false] at hq; rcases hq with rfl | rfl | rfl | rfl <;> rfl) ?_; intro w1_ hw1_ hk1_; simp only [List.toList_toArray, World.setCells, Nat.zero_add, Nat.reduceAdd] at hw1_; subst hw1_; have hcb355_0 := (blk_cell hk1_ 0).trans rfl; have hfb355_0 := blk_frozen hk1_ 0; have hcb355_1 := (blk_cell hk1_ 1).trans rfl; have hfb355_1 := blk_frozen hk1_ 1; have hcb355_2 := (blk_cell hk1_ 2).trans rfl; have hfb355_2 := blk_frozen hk1_ 2; have hcb355_3 := (blk_cell hk1_ 3).trans rfl; have hfb355_3 := blk_frozen hk1_ 3; clear hk1_) | ((with_reducible refine gate_store (t := 24) (p := 11) rfl ?_); refine HW.store_box2 rfl rfl 24 _ _ rfl rfl rfl BK339.out rfl (by kernel_rfl) (by intro q hq; simp only [List.mem_cons, List.not_mem_nil, or_false] at hq; rcases hq with rfl | rfl | rfl | rfl <;> rfl) ?_; intro w1_ hw1_ hk1_; simp only [List.toList_toArray, World.setCells, Nat.zero_add, Nat.reduceAdd] at hw1_; subst hw1_; have hcb339_0 := (blk_cell hk1_ 0).trans rfl; have hfb339_0 := blk_frozen hk1_ 0; have hcb339_1 := (blk_cell hk1_ 1).trans rfl; have hfb339_1 := blk_frozen hk1_ 1; have hcb339_2 := (blk_cell hk1_ 2).trans rfl; have hfb339_2 := blk_frozen hk1_ 2; have hcb339_3 := (blk_cell hk1_ 3).trans rfl; have hfb339_3 := blk_frozen hk1_ 3; clear hk1_) | ((with_reducible refine gate_callee (f := 15) rfl ?_); refine goesL_ (some 99) rfl rfl Try.func15 (by kernel_rfl) rfl #[.slice Ao56 t351.length co56, .slice A356_0 (rd_L1 l1 x13_2).length c356_0] rfl (by (try simp only [List.map_toArray, List.map_cons, List.map_nil]); first | done | rfl | (simp only [List.length_drop, List.length_take]; rfl)) ?_; (with_reducible refine (phaetonref01_SameBytes.calls _ _ t351 _ _ (rd_L1 l1 x13_2) true _ ?side1 ?side2 ?side3 ?side4 A38.out).mono ?_); (case side1 => refine (Kd.R_reads' (e := 5) (base := w.heap.size) (ok := fun k_ => (True ∧ some k_ ≠ (.slice Ao31 t342.length co31 : Value).ownBlock)) (n := t351.length) (c := co56) ?_).2.2; exact (by (with_reducible repeat (first | apply Kd.R_alloc | apply Kd.R_drewN | apply Kd.R_drew)); exact (Kd.R_mono (Kd.R_far (p := ⟨gb355, 3, none⟩) (Kd.R_far (p := ⟨gb355, 2, none⟩) (Kd.R_far (p := ⟨gb355, 1, none⟩) (Kd.R_far (p := ⟨gb355, 0, none⟩) (Kd.R_types HO353.out BK355.out (by decide)) (fun _ hk => hk.2) (.bool t347)) (fun _ hk => hk.2) (.int .i64 t348)) (fun _ hk => hk.2) (.int .i64 t349)) (fun _ hk => hk.2) (.int .i64 t350)) (fun _ h_ => h_.1)))); (case side2 => exact (Kd.R_reads' HO353.out).2.1); (case side3 => exact Kd.C_below HR356_0.out (by repeat (first | (with_reducible first | exact HB.out | apply below_alloc | apply pw_below_drewN | apply below_drew1 | refine below_set ?_ GE339.out | refine below_set ?_ GE355.out) | exact HB.out))); (case side4 => exact HC356_0.out); rintro e w' ⟨rfl, ⟨nd, rfl⟩⟩; refine ⟨_, rfl, ?_⟩; have hnb57 := NB339_355.out; have hnc57 := NB355_339.out; have hcz58_0 : w33.cell? ⟨gb339, 0, none⟩ = some (.bool true) := (blk_cell BK339.out 0).trans rfl; have hcz58_1 : w33.cell? ⟨gb339, 1, none⟩ = some (.int .i64 x340001_2) := (blk_cell BK339.out 1).trans rfl; have hcz58_2 : w33.cell? ⟨gb339, 2, none⟩ = some (.int .i64 x340002_2) := (blk_cell BK339.out 2).trans rfl; have hcz58_3 : w33.cell? ⟨gb339, 3, none⟩ = some (.int .i64 x340003_2) := (blk_cell BK339.out 3).trans rfl; have hfz58_0 := blk_frozen BK339.out 0; have hfz58_1 := blk_frozen BK339.out 1; have hfz58_2 := blk_frozen BK339.out 2; have hfz58_3 := blk_frozen BK339.out 3))
                                        go_meet
                                        case rel => exact ⟨_, (true), (by first | rfl | (simp; done) | (simp [*]; done)), H', ⟨by have := HJ5.out; have := HK2.out; have := HJ20.out; first | omega | exact Nat.le_refl _⟩, ⟨by (with_reducible repeat (first | apply Kd.R_alloc | apply Kd.R_drewN | apply Kd.R_drew)); exact Kd.R_mono (Kd.R_far (p := ⟨gb355, 3, none⟩) (Kd.R_far (p := ⟨gb355, 2, none⟩) (Kd.R_far (p := ⟨gb355, 1, none⟩) (Kd.R_far (p := ⟨gb355, 0, none⟩) (Kd.R_types HO_14.out BK355.out (by decide)) (fun _ hk => hk.2) (.bool t347)) (fun _ hk => hk.2) (.int .i64 t348)) (fun _ hk => hk.2) (.int .i64 t349)) (fun _ hk => hk.2) (.int .i64 t350)) (fun _ hk => trivial)⟩, ⟨by (with_reducible repeat (first | refine blk_drewN ?_ _ | refine blk_drew ?_ | refine blk_alloc ?_ _)); refine blk_far ?_ NB339_355.out _; (with_reducible repeat (first | refine blk_drewN ?_ _ | refine blk_drew ?_ | refine blk_alloc ?_ _)); refine blk_far ?_ NB339_355.out _; (with_reducible repeat (first | refine blk_drewN ?_ _ | refine blk_drew ?_ | refine blk_alloc ?_ _)); refine blk_far ?_ NB339_355.out _; (with_reducible repeat (first | refine blk_drewN ?_ _ | refine blk_drew ?_ | refine blk_alloc ?_ _)); refine blk_far ?_ NB339_355.out _; (with_reducible repeat (first | refine blk_drewN ?_ _ | refine blk_drew ?_ | refine blk_alloc ?_ _)); exact BK339.out⟩, ⟨by (with_reducible repeat (first | refine blk_drewN ?_ _ | refine blk_drew ?_ | refine blk_alloc ?_ _)); refine blk_put (cs := #[.bool t347, .int .i64 t348, .int .i64 t349, .int .i64 0]) ?_ 3 _ rfl; (with_reducible repeat (first | refine blk_drewN ?_ _ | refine blk_drew ?_ | refine blk_alloc ?_ _)); refine blk_put (cs := #[.bool t347, .int .i64 t348, .int .i64 0, .int .i64 0]) ?_ 2 _ rfl; (with_reducible repeat (first | refine blk_drewN ?_ _ | refine blk_drew ?_ | refine blk_alloc ?_ _)); refine blk_put (cs := #[.bool t347, .int .i64 0, .int .i64 0, .int .i64 0]) ?_ 1 _ rfl; (with_reducible repeat (first | refine blk_drewN ?_ _ | refine blk_drew ?_ | refine blk_alloc ?_ _)); refine blk_put (cs := #[.bool false, .int .i64 0, .int .i64 0, .int .i64 0]) ?_ 0 _ rfl; (with_reducible repeat (first | refine blk_drewN ?_ _ | refine blk_drew ?_ | refine blk_alloc ?_ _)); exact BK355.out⟩, ⟨by repeat (first | (with_reducible first | exact HB.out | apply below_alloc | apply pw_below_drewN | apply below_drew1 | refine below_set ?_ GE339.out | refine below_set ?_ GE355.out) | exact HB.out)⟩⟩
                                    · rw [if_neg c41] at H
                                      have c41b0 : (x12_2 == 0) = false := beq_eq_false_iff_ne.mpr c41
                                      have c41b1 : (x12_2 != 0) = true := bne_iff_ne.mpr c41
                                      by_cases c59 : x12_2 > 0
                                      · rw [if_pos c59] at H
                                        have c59b0 : decide (0 < x12_2) = true := decide_eq_true c59
                                        clear c59
                                        by_cases c60 : t354 = 4
                                        · rw [if_pos c60] at H
                                          have c60b0 : (t354 == 4) = true := beq_iff_eq.mpr c60
                                          have c60b1 : (t354 != 4) = false := bne_eq_false_iff_eq.mpr c60
                                          clear c60
                                          have H' := Aside0.mk H
                                          clear H
                                          have p356 : 0 ≤ (x13_2 : Int) := of_decide_eq_true (by first | (with_reducible assumption) | assumption)
                                          have q356 : x13_2 < (l1.length : Int) := of_decide_eq_true (by first | (with_reducible assumption) | assumption)
                                          obtain ⟨ad356, A356_0, c356_0, e356, hx356_0, hl356_0, hi356_0⟩ := at_L1 HR1.out x13_2 p356 q356
                                          obtain rfl : ad340 = ad356 := (by injection e356)
                                          have hn356_0 : ad340.block ≠ gb355 := Nat.ne_of_lt (Nat.lt_of_lt_of_le (by have := World.block_lt_of_cell? _ _ hx356_0; first | rwa [add_block] at this | exact this) GW355.out)
                                          have hn356_1 : ad340.block ≠ gb355 := Nat.ne_of_lt (Nat.lt_of_lt_of_le (by have := World.block_lt_of_cell? _ _ hx356_0; first | rwa [add_block] at this | exact this) GW355.out)
                                          have hn356_2 : ad340.block ≠ gb355 := Nat.ne_of_lt (Nat.lt_of_lt_of_le (by have := World.block_lt_of_cell? _ _ hx356_0; first | rwa [add_block] at this | exact this) GW355.out)
                                          have hn356_3 : ad340.block ≠ gb355 := Nat.ne_of_lt (Nat.lt_of_lt_of_le (by have := World.block_lt_of_cell? _ _ hx356_0; first | rwa [add_block] at this | exact this) GW355.out)
                                          replace hx356_0 := (HB.out.cell (World.block_lt_of_cell? w _ hx356_0)).trans hx356_0
                                          have HR356_0 := Aside0.mk hi356_0
                                          have HC356_0 := Aside0.mk hl356_0
                                          clear hi356_0 hl356_0
                                          replace hx356_0 := (cell_far (p := ⟨gb355, 0, none⟩) (by first | (rw [add_block]; exact hn356_0) | (show (Addr.add _ _).block ≠ _; rw [add_block]; exact hn356_0) | exact hn356_0) (.bool t347)).trans hx356_0
                                          replace hx356_0 := (cell_far (p := ⟨gb355, 1, none⟩) (by first | (rw [add_block]; exact hn356_1) | (show (Addr.add _ _).block ≠ _; rw [add_block]; exact hn356_1) | exact hn356_1) (.int .i64 t348)).trans hx356_0
                                          replace hx356_0 := (cell_far (p := ⟨gb355, 2, none⟩) (by first | (rw [add_block]; exact hn356_2) | (show (Addr.add _ _).block ≠ _; rw [add_block]; exact hn356_2) | exact hn356_2) (.int .i64 t349)).trans hx356_0
                                          replace hx356_0 := (cell_far (p := ⟨gb355, 3, none⟩) (by first | (rw [add_block]; exact hn356_3) | (show (Addr.add _ _).block ≠ _; rw [add_block]; exact hn356_3) | exact hn356_3) (.int .i64 t350)).trans hx356_0
                                          clear hn356_0
                                          clear hn356_1
                                          clear hn356_2
                                          clear hn356_3
                                          replace p356 := eq_true p356
                                          replace q356 := eq_true q356
                                          obtain ⟨Ao61, co61, eo61⟩ := Kd.R_slice HO353.out
                                          subst eo61
                                          go_wp2_with (first | ((with_reducible refine gate_store (t := 24) (p := 16) rfl ?_); refine HW.store_box2 rfl rfl 24 _ _ rfl rfl rfl BK355.out rfl (by kernel_rfl) (by intro q hq; simp only [List.mem_cons, List.not_mem_nil, or_false] at hq; rcases hq with rfl | rfl | rfl | rfl <;> rfl) ?_; intro w1_ hw1_ hk1_; simp only [List.toList_toArray, World.setCells, Nat.zero_add, Nat.reduceAdd] at hw1_; subst hw1_; have hcb355_0 := (blk_cell hk1_ 0).trans rfl; have hfb355_0 := blk_frozen hk1_ 0; have hcb355_1 := (blk_cell hk1_ 1).trans rfl; have hfb355_1 := blk_frozen hk1_ 1; have hcb355_2 := (blk_cell hk1_ 2).trans rfl; have hfb355_2 := blk_frozen hk1_ 2; have hcb355_3 := (blk_cell hk1_ 3).trans rfl; have hfb355_3 := blk_frozen hk1_ 3; clear hk1_) | ((with_reducible refine gate_store (t := 24) (p := 11) rfl ?_); refine HW.store_box2 rfl rfl 24 _ _ rfl rfl rfl BK339.out rfl (by kernel_rfl) (by intro q hq; simp only [List.mem_cons, List.not_mem_nil, or_false] at hq; rcases hq with rfl | rfl | rfl | rfl <;> rfl) ?_; intro w1_ hw1_ hk1_; simp only [List.toList_toArray, World.setCells, Nat.zero_add, Nat.reduceAdd] at hw1_; subst hw1_; have hcb339_0 := (blk_cell hk1_ 0).trans rfl; have hfb339_0 := blk_frozen hk1_ 0; have hcb339_1 := (blk_cell hk1_ 1).trans rfl; have hfb339_1 := blk_frozen hk1_ 1; have hcb339_2 := (blk_cell hk1_ 2).trans rfl; have hfb339_2 := blk_frozen hk1_ 2; have hcb339_3 := (blk_cell hk1_ 3).trans rfl; have hfb339_3 := blk_frozen hk1_ 3; clear hk1_) | ((with_reducible refine gate_callee (f := 15) rfl ?_); refine goesL_ (some 99) rfl rfl Try.func15 (by kernel_rfl) rfl #[.slice Ao61 t351.length co61, .slice A356_0 (rd_L1 l1 x13_2).length c356_0] rfl (by (try simp only [List.map_toArray, List.map_cons, List.map_nil]); first | done | rfl | (simp only [List.length_drop, List.length_take]; rfl)) ?_; (with_reducible refine (phaetonref01_SameBytes.calls _ _ t351 _ _ (rd_L1 l1 x13_2) true _ ?side1 ?side2 ?side3 ?side4 A38.out).mono ?_); (case side1 => refine (Kd.R_reads' (e := 5) (base := w.heap.size) (ok := fun k_ => (True ∧ some k_ ≠ (.slice Ao31 t342.length co31 : Value).ownBlock)) (n := t351.length) (c := co61) ?_).2.2; exact (by (with_reducible repeat (first | apply Kd.R_alloc | apply Kd.R_drewN | apply Kd.R_drew)); exact (Kd.R_mono (Kd.R_far (p := ⟨gb355, 3, none⟩) (Kd.R_far (p := ⟨gb355, 2, none⟩) (Kd.R_far (p := ⟨gb355, 1, none⟩) (Kd.R_far (p := ⟨gb355, 0, none⟩) (Kd.R_types HO353.out BK355.out (by decide)) (fun _ hk => hk.2) (.bool t347)) (fun _ hk => hk.2) (.int .i64 t348)) (fun _ hk => hk.2) (.int .i64 t349)) (fun _ hk => hk.2) (.int .i64 t350)) (fun _ h_ => h_.1)))); (case side2 => exact (Kd.R_reads' HO353.out).2.1); (case side3 => exact Kd.C_below HR356_0.out (by repeat (first | (with_reducible first | exact HB.out | apply below_alloc | apply pw_below_drewN | apply below_drew1 | refine below_set ?_ GE339.out | refine below_set ?_ GE355.out) | exact HB.out))); (case side4 => exact HC356_0.out); rintro e w' ⟨rfl, ⟨nd, rfl⟩⟩; refine ⟨_, rfl, ?_⟩; have hnb62 := NB339_355.out; have hnc62 := NB355_339.out; have hcz63_0 : w33.cell? ⟨gb339, 0, none⟩ = some (.bool true) := (blk_cell BK339.out 0).trans rfl; have hcz63_1 : w33.cell? ⟨gb339, 1, none⟩ = some (.int .i64 x340001_2) := (blk_cell BK339.out 1).trans rfl; have hcz63_2 : w33.cell? ⟨gb339, 2, none⟩ = some (.int .i64 x340002_2) := (blk_cell BK339.out 2).trans rfl; have hcz63_3 : w33.cell? ⟨gb339, 3, none⟩ = some (.int .i64 x340003_2) := (blk_cell BK339.out 3).trans rfl; have hfz63_0 := blk_frozen BK339.out 0; have hfz63_1 := blk_frozen BK339.out 1; have hfz63_2 := blk_frozen BK339.out 2; have hfz63_3 := blk_frozen BK339.out 3; have hcz64_0 : w33.cell? ⟨gb355, 0, none⟩ = some (.bool false) := (blk_cell BK355.out 0).trans rfl; have hcz64_1 : w33.cell? ⟨gb355, 1, none⟩ = some (.int .i64 0) := (blk_cell BK355.out 1).trans rfl; have hcz64_2 : w33.cell? ⟨gb355, 2, none⟩ = some (.int .i64 0) := (blk_cell BK355.out 2).trans rfl; have hcz64_3 : w33.cell? ⟨gb355, 3, none⟩ = some (.int .i64 0) := (blk_cell BK355.out 3).trans rfl; have hfz64_0 := blk_frozen BK355.out 0; have hfz64_1 := blk_frozen BK355.out 1; have hfz64_2 := blk_frozen BK355.out 2; have hfz64_3 := blk_frozen BK355.out 3))
                                          go_meet
                                          case rel => exact ⟨_, ((t350 != 0)), (by first | rfl | (simp; done) | (simp [*]; done)), H', ⟨by have := HJ5.out; have := HK2.out; have := HJ20.out; first | omega | exact Nat.le_refl _⟩, ⟨by (with_reducible repeat (first | apply Kd.R_alloc | apply Kd.R_drewN | apply Kd.R_drew)); exact Kd.R_mono (Kd.R_far (p := ⟨gb355, 3, none⟩) (Kd.R_far (p := ⟨gb355, 2, none⟩) (Kd.R_far (p := ⟨gb355, 1, none⟩) (Kd.R_far (p := ⟨gb355, 0, none⟩) (Kd.R_types HO_14.out BK355.out (by decide)) (fun _ hk => hk.2) (.bool t347)) (fun _ hk => hk.2) (.int .i64 t348)) (fun _ hk => hk.2) (.int .i64 t349)) (fun _ hk => hk.2) (.int .i64 t350)) (fun _ hk => trivial)⟩, ⟨by (with_reducible repeat (first | refine blk_drewN ?_ _ | refine blk_drew ?_ | refine blk_alloc ?_ _)); refine blk_far ?_ NB339_355.out _; (with_reducible repeat (first | refine blk_drewN ?_ _ | refine blk_drew ?_ | refine blk_alloc ?_ _)); refine blk_far ?_ NB339_355.out _; (with_reducible repeat (first | refine blk_drewN ?_ _ | refine blk_drew ?_ | refine blk_alloc ?_ _)); refine blk_far ?_ NB339_355.out _; (with_reducible repeat (first | refine blk_drewN ?_ _ | refine blk_drew ?_ | refine blk_alloc ?_ _)); refine blk_far ?_ NB339_355.out _; (with_reducible repeat (first | refine blk_drewN ?_ _ | refine blk_drew ?_ | refine blk_alloc ?_ _)); exact BK339.out⟩, ⟨by (with_reducible repeat (first | refine blk_drewN ?_ _ | refine blk_drew ?_ | refine blk_alloc ?_ _)); refine blk_put (cs := #[.bool t347, .int .i64 t348, .int .i64 t349, .int .i64 0]) ?_ 3 _ rfl; (with_reducible repeat (first | refine blk_drewN ?_ _ | refine blk_drew ?_ | refine blk_alloc ?_ _)); refine blk_put (cs := #[.bool t347, .int .i64 t348, .int .i64 0, .int .i64 0]) ?_ 2 _ rfl; (with_reducible repeat (first | refine blk_drewN ?_ _ | refine blk_drew ?_ | refine blk_alloc ?_ _)); refine blk_put (cs := #[.bool t347, .int .i64 0, .int .i64 0, .int .i64 0]) ?_ 1 _ rfl; (with_reducible repeat (first | refine blk_drewN ?_ _ | refine blk_drew ?_ | refine blk_alloc ?_ _)); refine blk_put (cs := #[.bool false, .int .i64 0, .int .i64 0, .int .i64 0]) ?_ 0 _ rfl; (with_reducible repeat (first | refine blk_drewN ?_ _ | refine blk_drew ?_ | refine blk_alloc ?_ _)); exact BK355.out⟩, ⟨by repeat (first | (with_reducible first | exact HB.out | apply below_alloc | apply pw_below_drewN | apply below_drew1 | refine below_set ?_ GE339.out | refine below_set ?_ GE355.out) | exact HB.out)⟩⟩
                                        · rw [if_neg c60] at H
                                          have c60b0 : (t354 == 4) = false := beq_eq_false_iff_ne.mpr c60
                                          have c60b1 : (t354 != 4) = true := bne_iff_ne.mpr c60
                                          have H' := Aside0.mk H
                                          clear H
                                          have p356 : 0 ≤ (x13_2 : Int) := of_decide_eq_true (by first | (with_reducible assumption) | assumption)
                                          have q356 : x13_2 < (l1.length : Int) := of_decide_eq_true (by first | (with_reducible assumption) | assumption)
                                          obtain ⟨ad356, A356_0, c356_0, e356, hx356_0, hl356_0, hi356_0⟩ := at_L1 HR1.out x13_2 p356 q356
                                          obtain rfl : ad340 = ad356 := (by injection e356)
                                          have hn356_0 : ad340.block ≠ gb355 := Nat.ne_of_lt (Nat.lt_of_lt_of_le (by have := World.block_lt_of_cell? _ _ hx356_0; first | rwa [add_block] at this | exact this) GW355.out)
                                          have hn356_1 : ad340.block ≠ gb355 := Nat.ne_of_lt (Nat.lt_of_lt_of_le (by have := World.block_lt_of_cell? _ _ hx356_0; first | rwa [add_block] at this | exact this) GW355.out)
                                          have hn356_2 : ad340.block ≠ gb355 := Nat.ne_of_lt (Nat.lt_of_lt_of_le (by have := World.block_lt_of_cell? _ _ hx356_0; first | rwa [add_block] at this | exact this) GW355.out)
                                          have hn356_3 : ad340.block ≠ gb355 := Nat.ne_of_lt (Nat.lt_of_lt_of_le (by have := World.block_lt_of_cell? _ _ hx356_0; first | rwa [add_block] at this | exact this) GW355.out)
                                          replace hx356_0 := (HB.out.cell (World.block_lt_of_cell? w _ hx356_0)).trans hx356_0
                                          have HR356_0 := Aside0.mk hi356_0
                                          have HC356_0 := Aside0.mk hl356_0
                                          clear hi356_0 hl356_0
                                          replace hx356_0 := (cell_far (p := ⟨gb355, 0, none⟩) (by first | (rw [add_block]; exact hn356_0) | (show (Addr.add _ _).block ≠ _; rw [add_block]; exact hn356_0) | exact hn356_0) (.bool t347)).trans hx356_0
                                          replace hx356_0 := (cell_far (p := ⟨gb355, 1, none⟩) (by first | (rw [add_block]; exact hn356_1) | (show (Addr.add _ _).block ≠ _; rw [add_block]; exact hn356_1) | exact hn356_1) (.int .i64 t348)).trans hx356_0
                                          replace hx356_0 := (cell_far (p := ⟨gb355, 2, none⟩) (by first | (rw [add_block]; exact hn356_2) | (show (Addr.add _ _).block ≠ _; rw [add_block]; exact hn356_2) | exact hn356_2) (.int .i64 t349)).trans hx356_0
                                          replace hx356_0 := (cell_far (p := ⟨gb355, 3, none⟩) (by first | (rw [add_block]; exact hn356_3) | (show (Addr.add _ _).block ≠ _; rw [add_block]; exact hn356_3) | exact hn356_3) (.int .i64 t350)).trans hx356_0
                                          clear hn356_0
                                          clear hn356_1
                                          clear hn356_2
                                          clear hn356_3
                                          replace p356 := eq_true p356
                                          replace q356 := eq_true q356
                                          obtain ⟨Ao65, co65, eo65⟩ := Kd.R_slice HO353.out
                                          subst eo65
                                          go_wp2_with (first | ((with_reducible refine gate_store (t := 24) (p := 16) rfl ?_); refine HW.store_box2 rfl rfl 24 _ _ rfl rfl rfl BK355.out rfl (by kernel_rfl) (by intro q hq; simp only [List.mem_cons, List.not_mem_nil, or_false] at hq; rcases hq with rfl | rfl | rfl | rfl <;> rfl) ?_; intro w1_ hw1_ hk1_; simp only [List.toList_toArray, World.setCells, Nat.zero_add, Nat.reduceAdd] at hw1_; subst hw1_; have hcb355_0 := (blk_cell hk1_ 0).trans rfl; have hfb355_0 := blk_frozen hk1_ 0; have hcb355_1 := (blk_cell hk1_ 1).trans rfl; have hfb355_1 := blk_frozen hk1_ 1; have hcb355_2 := (blk_cell hk1_ 2).trans rfl; have hfb355_2 := blk_frozen hk1_ 2; have hcb355_3 := (blk_cell hk1_ 3).trans rfl; have hfb355_3 := blk_frozen hk1_ 3; clear hk1_) | ((with_reducible refine gate_store (t := 24) (p := 11) rfl ?_); refine HW.store_box2 rfl rfl 24 _ _ rfl rfl rfl BK339.out rfl (by kernel_rfl) (by intro q hq; simp only [List.mem_cons, List.not_mem_nil, or_false] at hq; rcases hq with rfl | rfl | rfl | rfl <;> rfl) ?_; intro w1_ hw1_ hk1_; simp only [List.toList_toArray, World.setCells, Nat.zero_add, Nat.reduceAdd] at hw1_; subst hw1_; have hcb339_0 := (blk_cell hk1_ 0).trans rfl; have hfb339_0 := blk_frozen hk1_ 0; have hcb339_1 := (blk_cell hk1_ 1).trans rfl; have hfb339_1 := blk_frozen hk1_ 1; have hcb339_2 := (blk_cell hk1_ 2).trans rfl; have hfb339_2 := blk_frozen hk1_ 2; have hcb339_3 := (blk_cell hk1_ 3).trans rfl; have hfb339_3 := blk_frozen hk1_ 3; clear hk1_) | ((with_reducible refine gate_callee (f := 15) rfl ?_); refine goesL_ (some 99) rfl rfl Try.func15 (by kernel_rfl) rfl #[.slice Ao65 t351.length co65, .slice A356_0 (rd_L1 l1 x13_2).length c356_0] rfl (by (try simp only [List.map_toArray, List.map_cons, List.map_nil]); first | done | rfl | (simp only [List.length_drop, List.length_take]; rfl)) ?_; (with_reducible refine (phaetonref01_SameBytes.calls _ _ t351 _ _ (rd_L1 l1 x13_2) true _ ?side1 ?side2 ?side3 ?side4 A38.out).mono ?_); (case side1 => refine (Kd.R_reads' (e := 5) (base := w.heap.size) (ok := fun k_ => (True ∧ some k_ ≠ (.slice Ao31 t342.length co31 : Value).ownBlock)) (n := t351.length) (c := co65) ?_).2.2; exact (by (with_reducible repeat (first | apply Kd.R_alloc | apply Kd.R_drewN | apply Kd.R_drew)); exact (Kd.R_mono (Kd.R_far (p := ⟨gb355, 3, none⟩) (Kd.R_far (p := ⟨gb355, 2, none⟩) (Kd.R_far (p := ⟨gb355, 1, none⟩) (Kd.R_far (p := ⟨gb355, 0, none⟩) (Kd.R_types HO353.out BK355.out (by decide)) (fun _ hk => hk.2) (.bool t347)) (fun _ hk => hk.2) (.int .i64 t348)) (fun _ hk => hk.2) (.int .i64 t349)) (fun _ hk => hk.2) (.int .i64 t350)) (fun _ h_ => h_.1)))); (case side2 => exact (Kd.R_reads' HO353.out).2.1); (case side3 => exact Kd.C_below HR356_0.out (by repeat (first | (with_reducible first | exact HB.out | apply below_alloc | apply pw_below_drewN | apply below_drew1 | refine below_set ?_ GE339.out | refine below_set ?_ GE355.out) | exact HB.out))); (case side4 => exact HC356_0.out); rintro e w' ⟨rfl, ⟨nd, rfl⟩⟩; refine ⟨_, rfl, ?_⟩; have hnb66 := NB339_355.out; have hnc66 := NB355_339.out; have hcz67_0 : w33.cell? ⟨gb339, 0, none⟩ = some (.bool true) := (blk_cell BK339.out 0).trans rfl; have hcz67_1 : w33.cell? ⟨gb339, 1, none⟩ = some (.int .i64 x340001_2) := (blk_cell BK339.out 1).trans rfl; have hcz67_2 : w33.cell? ⟨gb339, 2, none⟩ = some (.int .i64 x340002_2) := (blk_cell BK339.out 2).trans rfl; have hcz67_3 : w33.cell? ⟨gb339, 3, none⟩ = some (.int .i64 x340003_2) := (blk_cell BK339.out 3).trans rfl; have hfz67_0 := blk_frozen BK339.out 0; have hfz67_1 := blk_frozen BK339.out 1; have hfz67_2 := blk_frozen BK339.out 2; have hfz67_3 := blk_frozen BK339.out 3))
                                          go_meet
                                          case rel => exact ⟨_, (true), (by first | rfl | (simp; done) | (simp [*]; done)), H', ⟨by have := HJ5.out; have := HK2.out; have := HJ20.out; first | omega | exact Nat.le_refl _⟩, ⟨by (with_reducible repeat (first | apply Kd.R_alloc | apply Kd.R_drewN | apply Kd.R_drew)); exact Kd.R_mono (Kd.R_far (p := ⟨gb355, 3, none⟩) (Kd.R_far (p := ⟨gb355, 2, none⟩) (Kd.R_far (p := ⟨gb355, 1, none⟩) (Kd.R_far (p := ⟨gb355, 0, none⟩) (Kd.R_types HO_14.out BK355.out (by decide)) (fun _ hk => hk.2) (.bool t347)) (fun _ hk => hk.2) (.int .i64 t348)) (fun _ hk => hk.2) (.int .i64 t349)) (fun _ hk => hk.2) (.int .i64 t350)) (fun _ hk => trivial)⟩, ⟨by (with_reducible repeat (first | refine blk_drewN ?_ _ | refine blk_drew ?_ | refine blk_alloc ?_ _)); refine blk_far ?_ NB339_355.out _; (with_reducible repeat (first | refine blk_drewN ?_ _ | refine blk_drew ?_ | refine blk_alloc ?_ _)); refine blk_far ?_ NB339_355.out _; (with_reducible repeat (first | refine blk_drewN ?_ _ | refine blk_drew ?_ | refine blk_alloc ?_ _)); refine blk_far ?_ NB339_355.out _; (with_reducible repeat (first | refine blk_drewN ?_ _ | refine blk_drew ?_ | refine blk_alloc ?_ _)); refine blk_far ?_ NB339_355.out _; (with_reducible repeat (first | refine blk_drewN ?_ _ | refine blk_drew ?_ | refine blk_alloc ?_ _)); exact BK339.out⟩, ⟨by (with_reducible repeat (first | refine blk_drewN ?_ _ | refine blk_drew ?_ | refine blk_alloc ?_ _)); refine blk_put (cs := #[.bool t347, .int .i64 t348, .int .i64 t349, .int .i64 0]) ?_ 3 _ rfl; (with_reducible repeat (first | refine blk_drewN ?_ _ | refine blk_drew ?_ | refine blk_alloc ?_ _)); refine blk_put (cs := #[.bool t347, .int .i64 t348, .int .i64 0, .int .i64 0]) ?_ 2 _ rfl; (with_reducible repeat (first | refine blk_drewN ?_ _ | refine blk_drew ?_ | refine blk_alloc ?_ _)); refine blk_put (cs := #[.bool t347, .int .i64 0, .int .i64 0, .int .i64 0]) ?_ 1 _ rfl; (with_reducible repeat (first | refine blk_drewN ?_ _ | refine blk_drew ?_ | refine blk_alloc ?_ _)); refine blk_put (cs := #[.bool false, .int .i64 0, .int .i64 0, .int .i64 0]) ?_ 0 _ rfl; (with_reducible repeat (first | refine blk_drewN ?_ _ | refine blk_drew ?_ | refine blk_alloc ?_ _)); exact BK355.out⟩, ⟨by repeat (first | (with_reducible first | exact HB.out | apply below_alloc | apply pw_below_drewN | apply below_drew1 | refine below_set ?_ GE339.out | refine below_set ?_ GE355.out) | exact HB.out)⟩⟩
                                      · rw [if_neg c59] at H
                                        have c59b0 : decide (0 < x12_2) = false := decide_eq_false c59
                                        clear c59
                                        have H' := Aside0.mk H
                                        clear H
                                        have p356 : 0 ≤ (x13_2 : Int) := of_decide_eq_true (by first | (with_reducible assumption) | assumption)
                                        have q356 : x13_2 < (l1.length : Int) := of_decide_eq_true (by first | (with_reducible assumption) | assumption)
                                        obtain ⟨ad356, A356_0, c356_0, e356, hx356_0, hl356_0, hi356_0⟩ := at_L1 HR1.out x13_2 p356 q356
                                        obtain rfl : ad340 = ad356 := (by injection e356)
                                        have hn356_0 : ad340.block ≠ gb355 := Nat.ne_of_lt (Nat.lt_of_lt_of_le (by have := World.block_lt_of_cell? _ _ hx356_0; first | rwa [add_block] at this | exact this) GW355.out)
                                        have hn356_1 : ad340.block ≠ gb355 := Nat.ne_of_lt (Nat.lt_of_lt_of_le (by have := World.block_lt_of_cell? _ _ hx356_0; first | rwa [add_block] at this | exact this) GW355.out)
                                        have hn356_2 : ad340.block ≠ gb355 := Nat.ne_of_lt (Nat.lt_of_lt_of_le (by have := World.block_lt_of_cell? _ _ hx356_0; first | rwa [add_block] at this | exact this) GW355.out)
                                        have hn356_3 : ad340.block ≠ gb355 := Nat.ne_of_lt (Nat.lt_of_lt_of_le (by have := World.block_lt_of_cell? _ _ hx356_0; first | rwa [add_block] at this | exact this) GW355.out)
                                        replace hx356_0 := (HB.out.cell (World.block_lt_of_cell? w _ hx356_0)).trans hx356_0
                                        have HR356_0 := Aside0.mk hi356_0
                                        have HC356_0 := Aside0.mk hl356_0
                                        clear hi356_0 hl356_0
                                        replace hx356_0 := (cell_far (p := ⟨gb355, 0, none⟩) (by first | (rw [add_block]; exact hn356_0) | (show (Addr.add _ _).block ≠ _; rw [add_block]; exact hn356_0) | exact hn356_0) (.bool t347)).trans hx356_0
                                        replace hx356_0 := (cell_far (p := ⟨gb355, 1, none⟩) (by first | (rw [add_block]; exact hn356_1) | (show (Addr.add _ _).block ≠ _; rw [add_block]; exact hn356_1) | exact hn356_1) (.int .i64 t348)).trans hx356_0
                                        replace hx356_0 := (cell_far (p := ⟨gb355, 2, none⟩) (by first | (rw [add_block]; exact hn356_2) | (show (Addr.add _ _).block ≠ _; rw [add_block]; exact hn356_2) | exact hn356_2) (.int .i64 t349)).trans hx356_0
                                        replace hx356_0 := (cell_far (p := ⟨gb355, 3, none⟩) (by first | (rw [add_block]; exact hn356_3) | (show (Addr.add _ _).block ≠ _; rw [add_block]; exact hn356_3) | exact hn356_3) (.int .i64 t350)).trans hx356_0
                                        clear hn356_0
                                        clear hn356_1
                                        clear hn356_2
                                        clear hn356_3
                                        replace p356 := eq_true p356
                                        replace q356 := eq_true q356
                                        obtain ⟨Ao68, co68, eo68⟩ := Kd.R_slice HO353.out
                                        subst eo68
                                        go_wp2_with (first | ((with_reducible refine gate_store (t := 24) (p := 16) rfl ?_); refine HW.store_box2 rfl rfl 24 _ _ rfl rfl rfl BK355.out rfl (by kernel_rfl) (by intro q hq; simp only [List.mem_cons, List.not_mem_nil, or_false] at hq; rcases hq with rfl | rfl | rfl | rfl <;> rfl) ?_; intro w1_ hw1_ hk1_; simp only [List.toList_toArray, World.setCells, Nat.zero_add, Nat.reduceAdd] at hw1_; subst hw1_; have hcb355_0 := (blk_cell hk1_ 0).trans rfl; have hfb355_0 := blk_frozen hk1_ 0; have hcb355_1 := (blk_cell hk1_ 1).trans rfl; have hfb355_1 := blk_frozen hk1_ 1; have hcb355_2 := (blk_cell hk1_ 2).trans rfl; have hfb355_2 := blk_frozen hk1_ 2; have hcb355_3 := (blk_cell hk1_ 3).trans rfl; have hfb355_3 := blk_frozen hk1_ 3; clear hk1_) | ((with_reducible refine gate_store (t := 24) (p := 11) rfl ?_); refine HW.store_box2 rfl rfl 24 _ _ rfl rfl rfl BK339.out rfl (by kernel_rfl) (by intro q hq; simp only [List.mem_cons, List.not_mem_nil, or_false] at hq; rcases hq with rfl | rfl | rfl | rfl <;> rfl) ?_; intro w1_ hw1_ hk1_; simp only [List.toList_toArray, World.setCells, Nat.zero_add, Nat.reduceAdd] at hw1_; subst hw1_; have hcb339_0 := (blk_cell hk1_ 0).trans rfl; have hfb339_0 := blk_frozen hk1_ 0; have hcb339_1 := (blk_cell hk1_ 1).trans rfl; have hfb339_1 := blk_frozen hk1_ 1; have hcb339_2 := (blk_cell hk1_ 2).trans rfl; have hfb339_2 := blk_frozen hk1_ 2; have hcb339_3 := (blk_cell hk1_ 3).trans rfl; have hfb339_3 := blk_frozen hk1_ 3; clear hk1_) | ((with_reducible refine gate_callee (f := 15) rfl ?_); refine goesL_ (some 99) rfl rfl Try.func15 (by kernel_rfl) rfl #[.slice Ao68 t351.length co68, .slice A356_0 (rd_L1 l1 x13_2).length c356_0] rfl (by (try simp only [List.map_toArray, List.map_cons, List.map_nil]); first | done | rfl | (simp only [List.length_drop, List.length_take]; rfl)) ?_; (with_reducible refine (phaetonref01_SameBytes.calls _ _ t351 _ _ (rd_L1 l1 x13_2) true _ ?side1 ?side2 ?side3 ?side4 A38.out).mono ?_); (case side1 => refine (Kd.R_reads' (e := 5) (base := w.heap.size) (ok := fun k_ => (True ∧ some k_ ≠ (.slice Ao31 t342.length co31 : Value).ownBlock)) (n := t351.length) (c := co68) ?_).2.2; exact (by (with_reducible repeat (first | apply Kd.R_alloc | apply Kd.R_drewN | apply Kd.R_drew)); exact (Kd.R_mono (Kd.R_far (p := ⟨gb355, 3, none⟩) (Kd.R_far (p := ⟨gb355, 2, none⟩) (Kd.R_far (p := ⟨gb355, 1, none⟩) (Kd.R_far (p := ⟨gb355, 0, none⟩) (Kd.R_types HO353.out BK355.out (by decide)) (fun _ hk => hk.2) (.bool t347)) (fun _ hk => hk.2) (.int .i64 t348)) (fun _ hk => hk.2) (.int .i64 t349)) (fun _ hk => hk.2) (.int .i64 t350)) (fun _ h_ => h_.1)))); (case side2 => exact (Kd.R_reads' HO353.out).2.1); (case side3 => exact Kd.C_below HR356_0.out (by repeat (first | (with_reducible first | exact HB.out | apply below_alloc | apply pw_below_drewN | apply below_drew1 | refine below_set ?_ GE339.out | refine below_set ?_ GE355.out) | exact HB.out))); (case side4 => exact HC356_0.out); rintro e w' ⟨rfl, ⟨nd, rfl⟩⟩; refine ⟨_, rfl, ?_⟩; have hnb69 := NB339_355.out; have hnc69 := NB355_339.out; have hcz70_0 : w33.cell? ⟨gb339, 0, none⟩ = some (.bool true) := (blk_cell BK339.out 0).trans rfl; have hcz70_1 : w33.cell? ⟨gb339, 1, none⟩ = some (.int .i64 x340001_2) := (blk_cell BK339.out 1).trans rfl; have hcz70_2 : w33.cell? ⟨gb339, 2, none⟩ = some (.int .i64 x340002_2) := (blk_cell BK339.out 2).trans rfl; have hcz70_3 : w33.cell? ⟨gb339, 3, none⟩ = some (.int .i64 x340003_2) := (blk_cell BK339.out 3).trans rfl; have hfz70_0 := blk_frozen BK339.out 0; have hfz70_1 := blk_frozen BK339.out 1; have hfz70_2 := blk_frozen BK339.out 2; have hfz70_3 := blk_frozen BK339.out 3; have hcz71_0 : w33.cell? ⟨gb355, 0, none⟩ = some (.bool false) := (blk_cell BK355.out 0).trans rfl; have hcz71_1 : w33.cell? ⟨gb355, 1, none⟩ = some (.int .i64 0) := (blk_cell BK355.out 1).trans rfl; have hcz71_2 : w33.cell? ⟨gb355, 2, none⟩ = some (.int .i64 0) := (blk_cell BK355.out 2).trans rfl; have hcz71_3 : w33.cell? ⟨gb355, 3, none⟩ = some (.int .i64 0) := (blk_cell BK355.out 3).trans rfl; have hfz71_0 := blk_frozen BK355.out 0; have hfz71_1 := blk_frozen BK355.out 1; have hfz71_2 := blk_frozen BK355.out 2; have hfz71_3 := blk_frozen BK355.out 3))
                                        go_meet
                                        case rel => exact ⟨_, ((t350 != 0)), (by first | rfl | (simp; done) | (simp [*]; done)), H', ⟨by have := HJ5.out; have := HK2.out; have := HJ20.out; first | omega | exact Nat.le_refl _⟩, ⟨by (with_reducible repeat (first | apply Kd.R_alloc | apply Kd.R_drewN | apply Kd.R_drew)); exact Kd.R_mono (Kd.R_far (p := ⟨gb355, 3, none⟩) (Kd.R_far (p := ⟨gb355, 2, none⟩) (Kd.R_far (p := ⟨gb355, 1, none⟩) (Kd.R_far (p := ⟨gb355, 0, none⟩) (Kd.R_types HO_14.out BK355.out (by decide)) (fun _ hk => hk.2) (.bool t347)) (fun _ hk => hk.2) (.int .i64 t348)) (fun _ hk => hk.2) (.int .i64 t349)) (fun _ hk => hk.2) (.int .i64 t350)) (fun _ hk => trivial)⟩, ⟨by (with_reducible repeat (first | refine blk_drewN ?_ _ | refine blk_drew ?_ | refine blk_alloc ?_ _)); refine blk_far ?_ NB339_355.out _; (with_reducible repeat (first | refine blk_drewN ?_ _ | refine blk_drew ?_ | refine blk_alloc ?_ _)); refine blk_far ?_ NB339_355.out _; (with_reducible repeat (first | refine blk_drewN ?_ _ | refine blk_drew ?_ | refine blk_alloc ?_ _)); refine blk_far ?_ NB339_355.out _; (with_reducible repeat (first | refine blk_drewN ?_ _ | refine blk_drew ?_ | refine blk_alloc ?_ _)); refine blk_far ?_ NB339_355.out _; (with_reducible repeat (first | refine blk_drewN ?_ _ | refine blk_drew ?_ | refine blk_alloc ?_ _)); exact BK339.out⟩, ⟨by (with_reducible repeat (first | refine blk_drewN ?_ _ | refine blk_drew ?_ | refine blk_alloc ?_ _)); refine blk_put (cs := #[.bool t347, .int .i64 t348, .int .i64 t349, .int .i64 0]) ?_ 3 _ rfl; (with_reducible repeat (first | refine blk_drewN ?_ _ | refine blk_drew ?_ | refine blk_alloc ?_ _)); refine blk_put (cs := #[.bool t347, .int .i64 t348, .int .i64 0, .int .i64 0]) ?_ 2 _ rfl; (with_reducible repeat (first | refine blk_drewN ?_ _ | refine blk_drew ?_ | refine blk_alloc ?_ _)); refine blk_put (cs := #[.bool t347, .int .i64 0, .int .i64 0, .int .i64 0]) ?_ 1 _ rfl; (with_reducible repeat (first | refine blk_drewN ?_ _ | refine blk_drew ?_ | refine blk_alloc ?_ _)); refine blk_put (cs := #[.bool false, .int .i64 0, .int .i64 0, .int .i64 0]) ?_ 0 _ rfl; (with_reducible repeat (first | refine blk_drewN ?_ _ | refine blk_drew ?_ | refine blk_alloc ?_ _)); exact BK355.out⟩, ⟨by repeat (first | (with_reducible first | exact HB.out | apply below_alloc | apply pw_below_drewN | apply below_drew1 | refine below_set ?_ GE339.out | refine below_set ?_ GE355.out) | exact HB.out)⟩⟩
                                  · replace c40 := Bool.eq_false_iff.mpr c40
                                    subst c40
                                    have H1 : (if t354 = 2 then (phaetonlaw16_TrustRow.j3 kj20 a0 l1 l2 t334 (wrap64 ((Int.tmod (wrap64 (a3)) 14) + 1)) x13_2 t342 (t350 != 0) t347 t348 t349 t350) else (phaetonlaw16_TrustRow.j3 kj20 a0 l1 l2 t334 (wrap64 ((Int.tmod (wrap64 (a3)) 14) + 1)) x13_2 t342 true t347 t348 t349 t350)) = some r := by rw [if_neg (show ¬ (false = true) by decide)] at H; exact H
                                    clear H
                                    have H := H1
                                    clear H1
                                    by_cases c72 : t354 = 2
                                    · rw [if_pos c72] at H
                                      have c72b0 : (t354 == 2) = true := beq_iff_eq.mpr c72
                                      have c72b1 : (t354 != 2) = false := bne_eq_false_iff_eq.mpr c72
                                      clear c72
                                      have H' := Aside0.mk H
                                      clear H
                                      have p356 : 0 ≤ (x13_2 : Int) := of_decide_eq_true (by first | (with_reducible assumption) | assumption)
                                      have q356 : x13_2 < (l1.length : Int) := of_decide_eq_true (by first | (with_reducible assumption) | assumption)
                                      obtain ⟨ad356, A356_0, c356_0, e356, hx356_0, hl356_0, hi356_0⟩ := at_L1 HR1.out x13_2 p356 q356
                                      obtain rfl : ad340 = ad356 := (by injection e356)
                                      have hn356_0 : ad340.block ≠ gb355 := Nat.ne_of_lt (Nat.lt_of_lt_of_le (by have := World.block_lt_of_cell? _ _ hx356_0; first | rwa [add_block] at this | exact this) GW355.out)
                                      have hn356_1 : ad340.block ≠ gb355 := Nat.ne_of_lt (Nat.lt_of_lt_of_le (by have := World.block_lt_of_cell? _ _ hx356_0; first | rwa [add_block] at this | exact this) GW355.out)
                                      have hn356_2 : ad340.block ≠ gb355 := Nat.ne_of_lt (Nat.lt_of_lt_of_le (by have := World.block_lt_of_cell? _ _ hx356_0; first | rwa [add_block] at this | exact this) GW355.out)
                                      have hn356_3 : ad340.block ≠ gb355 := Nat.ne_of_lt (Nat.lt_of_lt_of_le (by have := World.block_lt_of_cell? _ _ hx356_0; first | rwa [add_block] at this | exact this) GW355.out)
                                      replace hx356_0 := (HB.out.cell (World.block_lt_of_cell? w _ hx356_0)).trans hx356_0
                                      have HR356_0 := Aside0.mk hi356_0
                                      have HC356_0 := Aside0.mk hl356_0
                                      clear hi356_0 hl356_0
                                      replace hx356_0 := (cell_far (p := ⟨gb355, 0, none⟩) (by first | (rw [add_block]; exact hn356_0) | (show (Addr.add _ _).block ≠ _; rw [add_block]; exact hn356_0) | exact hn356_0) (.bool t347)).trans hx356_0
                                      replace hx356_0 := (cell_far (p := ⟨gb355, 1, none⟩) (by first | (rw [add_block]; exact hn356_1) | (show (Addr.add _ _).block ≠ _; rw [add_block]; exact hn356_1) | exact hn356_1) (.int .i64 t348)).trans hx356_0
                                      replace hx356_0 := (cell_far (p := ⟨gb355, 2, none⟩) (by first | (rw [add_block]; exact hn356_2) | (show (Addr.add _ _).block ≠ _; rw [add_block]; exact hn356_2) | exact hn356_2) (.int .i64 t349)).trans hx356_0
                                      replace hx356_0 := (cell_far (p := ⟨gb355, 3, none⟩) (by first | (rw [add_block]; exact hn356_3) | (show (Addr.add _ _).block ≠ _; rw [add_block]; exact hn356_3) | exact hn356_3) (.int .i64 t350)).trans hx356_0
                                      clear hn356_0
                                      clear hn356_1
                                      clear hn356_2
                                      clear hn356_3
                                      replace p356 := eq_true p356
                                      replace q356 := eq_true q356
                                      obtain ⟨Ao73, co73, eo73⟩ := Kd.R_slice HO353.out
                                      subst eo73
                                      go_wp2_with (first | ((with_reducible refine gate_store (t := 24) (p := 16) rfl ?_); refine HW.store_box2 rfl rfl 24 _ _ rfl rfl rfl BK355.out rfl (by kernel_rfl) (by intro q hq; simp only [List.mem_cons, List.not_mem_nil, or_false] at hq; rcases hq with rfl | rfl | rfl | rfl <;> rfl) ?_; intro w1_ hw1_ hk1_; simp only [List.toList_toArray, World.setCells, Nat.zero_add, Nat.reduceAdd] at hw1_; subst hw1_; have hcb355_0 := (blk_cell hk1_ 0).trans rfl; have hfb355_0 := blk_frozen hk1_ 0; have hcb355_1 := (blk_cell hk1_ 1).trans rfl; have hfb355_1 := blk_frozen hk1_ 1; have hcb355_2 := (blk_cell hk1_ 2).trans rfl; have hfb355_2 := blk_frozen hk1_ 2; have hcb355_3 := (blk_cell hk1_ 3).trans rfl; have hfb355_3 := blk_frozen hk1_ 3; clear hk1_) | ((with_reducible refine gate_store (t := 24) (p := 11) rfl ?_); refine HW.store_box2 rfl rfl 24 _ _ rfl rfl rfl BK339.out rfl (by kernel_rfl) (by intro q hq; simp only [List.mem_cons, List.not_mem_nil, or_false] at hq; rcases hq with rfl | rfl | rfl | rfl <;> rfl) ?_; intro w1_ hw1_ hk1_; simp only [List.toList_toArray, World.setCells, Nat.zero_add, Nat.reduceAdd] at hw1_; subst hw1_; have hcb339_0 := (blk_cell hk1_ 0).trans rfl; have hfb339_0 := blk_frozen hk1_ 0; have hcb339_1 := (blk_cell hk1_ 1).trans rfl; have hfb339_1 := blk_frozen hk1_ 1; have hcb339_2 := (blk_cell hk1_ 2).trans rfl; have hfb339_2 := blk_frozen hk1_ 2; have hcb339_3 := (blk_cell hk1_ 3).trans rfl; have hfb339_3 := blk_frozen hk1_ 3; clear hk1_) | ((with_reducible refine gate_callee (f := 15) rfl ?_); refine goesL_ (some 99) rfl rfl Try.func15 (by kernel_rfl) rfl #[.slice Ao73 t351.length co73, .slice A356_0 (rd_L1 l1 x13_2).length c356_0] rfl (by (try simp only [List.map_toArray, List.map_cons, List.map_nil]); first | done | rfl | (simp only [List.length_drop, List.length_take]; rfl)) ?_; (with_reducible refine (phaetonref01_SameBytes.calls _ _ t351 _ _ (rd_L1 l1 x13_2) true _ ?side1 ?side2 ?side3 ?side4 A38.out).mono ?_); (case side1 => refine (Kd.R_reads' (e := 5) (base := w.heap.size) (ok := fun k_ => (True ∧ some k_ ≠ (.slice Ao31 t342.length co31 : Value).ownBlock)) (n := t351.length) (c := co73) ?_).2.2; exact (by (with_reducible repeat (first | apply Kd.R_alloc | apply Kd.R_drewN | apply Kd.R_drew)); exact (Kd.R_mono (Kd.R_far (p := ⟨gb355, 3, none⟩) (Kd.R_far (p := ⟨gb355, 2, none⟩) (Kd.R_far (p := ⟨gb355, 1, none⟩) (Kd.R_far (p := ⟨gb355, 0, none⟩) (Kd.R_types HO353.out BK355.out (by decide)) (fun _ hk => hk.2) (.bool t347)) (fun _ hk => hk.2) (.int .i64 t348)) (fun _ hk => hk.2) (.int .i64 t349)) (fun _ hk => hk.2) (.int .i64 t350)) (fun _ h_ => h_.1)))); (case side2 => exact (Kd.R_reads' HO353.out).2.1); (case side3 => exact Kd.C_below HR356_0.out (by repeat (first | (with_reducible first | exact HB.out | apply below_alloc | apply pw_below_drewN | apply below_drew1 | refine below_set ?_ GE339.out | refine below_set ?_ GE355.out) | exact HB.out))); (case side4 => exact HC356_0.out); rintro e w' ⟨rfl, ⟨nd, rfl⟩⟩; refine ⟨_, rfl, ?_⟩; have hnb74 := NB339_355.out; have hnc74 := NB355_339.out; have hcz75_0 : w33.cell? ⟨gb339, 0, none⟩ = some (.bool false) := (blk_cell BK339.out 0).trans rfl; have hcz75_1 : w33.cell? ⟨gb339, 1, none⟩ = some (.int .i64 x340001_2) := (blk_cell BK339.out 1).trans rfl; have hcz75_2 : w33.cell? ⟨gb339, 2, none⟩ = some (.int .i64 x340002_2) := (blk_cell BK339.out 2).trans rfl; have hcz75_3 : w33.cell? ⟨gb339, 3, none⟩ = some (.int .i64 x340003_2) := (blk_cell BK339.out 3).trans rfl; have hfz75_0 := blk_frozen BK339.out 0; have hfz75_1 := blk_frozen BK339.out 1; have hfz75_2 := blk_frozen BK339.out 2; have hfz75_3 := blk_frozen BK339.out 3; have hcz76_0 : w33.cell? ⟨gb355, 0, none⟩ = some (.bool false) := (blk_cell BK355.out 0).trans rfl; have hcz76_1 : w33.cell? ⟨gb355, 1, none⟩ = some (.int .i64 0) := (blk_cell BK355.out 1).trans rfl; have hcz76_2 : w33.cell? ⟨gb355, 2, none⟩ = some (.int .i64 0) := (blk_cell BK355.out 2).trans rfl; have hcz76_3 : w33.cell? ⟨gb355, 3, none⟩ = some (.int .i64 0) := (blk_cell BK355.out 3).trans rfl; have hfz76_0 := blk_frozen BK355.out 0; have hfz76_1 := blk_frozen BK355.out 1; have hfz76_2 := blk_frozen BK355.out 2; have hfz76_3 := blk_frozen BK355.out 3))
                                      go_meet
                                      case rel => exact ⟨_, ((t350 != 0)), (by first | rfl | (simp; done) | (simp [*]; done)), H', ⟨by have := HJ5.out; have := HK2.out; have := HJ20.out; first | omega | exact Nat.le_refl _⟩, ⟨by (with_reducible repeat (first | apply Kd.R_alloc | apply Kd.R_drewN | apply Kd.R_drew)); exact Kd.R_mono (Kd.R_far (p := ⟨gb355, 3, none⟩) (Kd.R_far (p := ⟨gb355, 2, none⟩) (Kd.R_far (p := ⟨gb355, 1, none⟩) (Kd.R_far (p := ⟨gb355, 0, none⟩) (Kd.R_types HO_14.out BK355.out (by decide)) (fun _ hk => hk.2) (.bool t347)) (fun _ hk => hk.2) (.int .i64 t348)) (fun _ hk => hk.2) (.int .i64 t349)) (fun _ hk => hk.2) (.int .i64 t350)) (fun _ hk => trivial)⟩, ⟨by (with_reducible repeat (first | refine blk_drewN ?_ _ | refine blk_drew ?_ | refine blk_alloc ?_ _)); refine blk_far ?_ NB339_355.out _; (with_reducible repeat (first | refine blk_drewN ?_ _ | refine blk_drew ?_ | refine blk_alloc ?_ _)); refine blk_far ?_ NB339_355.out _; (with_reducible repeat (first | refine blk_drewN ?_ _ | refine blk_drew ?_ | refine blk_alloc ?_ _)); refine blk_far ?_ NB339_355.out _; (with_reducible repeat (first | refine blk_drewN ?_ _ | refine blk_drew ?_ | refine blk_alloc ?_ _)); refine blk_far ?_ NB339_355.out _; (with_reducible repeat (first | refine blk_drewN ?_ _ | refine blk_drew ?_ | refine blk_alloc ?_ _)); exact BK339.out⟩, ⟨by (with_reducible repeat (first | refine blk_drewN ?_ _ | refine blk_drew ?_ | refine blk_alloc ?_ _)); refine blk_put (cs := #[.bool t347, .int .i64 t348, .int .i64 t349, .int .i64 0]) ?_ 3 _ rfl; (with_reducible repeat (first | refine blk_drewN ?_ _ | refine blk_drew ?_ | refine blk_alloc ?_ _)); refine blk_put (cs := #[.bool t347, .int .i64 t348, .int .i64 0, .int .i64 0]) ?_ 2 _ rfl; (with_reducible repeat (first | refine blk_drewN ?_ _ | refine blk_drew ?_ | refine blk_alloc ?_ _)); refine blk_put (cs := #[.bool t347, .int .i64 0, .int .i64 0, .int .i64 0]) ?_ 1 _ rfl; (with_reducible repeat (first | refine blk_drewN ?_ _ | refine blk_drew ?_ | refine blk_alloc ?_ _)); refine blk_put (cs := #[.bool false, .int .i64 0, .int .i64 0, .int .i64 0]) ?_ 0 _ rfl; (with_reducible repeat (first | refine blk_drewN ?_ _ | refine blk_drew ?_ | refine blk_alloc ?_ _)); exact BK355.out⟩, ⟨by repeat (first | (with_reducible first | exact HB.out | apply below_alloc | apply pw_below_drewN | apply below_drew1 | refine below_set ?_ GE339.out | refine below_set ?_ GE355.out) | exact HB.out)⟩⟩
                                    · rw [if_neg c72] at H
                                      have c72b0 : (t354 == 2) = false := beq_eq_false_iff_ne.mpr c72
                                      have c72b1 : (t354 != 2) = true := bne_iff_ne.mpr c72
                                      have H' := Aside0.mk H
                                      clear H
                                      have p356 : 0 ≤ (x13_2 : Int) := of_decide_eq_true (by first | (with_reducible assumption) | assumption)
                                      have q356 : x13_2 < (l1.length : Int) := of_decide_eq_true (by first | (with_reducible assumption) | assumption)
                                      obtain ⟨ad356, A356_0, c356_0, e356, hx356_0, hl356_0, hi356_0⟩ := at_L1 HR1.out x13_2 p356 q356
                                      obtain rfl : ad340 = ad356 := (by injection e356)
                                      have hn356_0 : ad340.block ≠ gb355 := Nat.ne_of_lt (Nat.lt_of_lt_of_le (by have := World.block_lt_of_cell? _ _ hx356_0; first | rwa [add_block] at this | exact this) GW355.out)
                                      have hn356_1 : ad340.block ≠ gb355 := Nat.ne_of_lt (Nat.lt_of_lt_of_le (by have := World.block_lt_of_cell? _ _ hx356_0; first | rwa [add_block] at this | exact this) GW355.out)
                                      have hn356_2 : ad340.block ≠ gb355 := Nat.ne_of_lt (Nat.lt_of_lt_of_le (by have := World.block_lt_of_cell? _ _ hx356_0; first | rwa [add_block] at this | exact this) GW355.out)
                                      have hn356_3 : ad340.block ≠ gb355 := Nat.ne_of_lt (Nat.lt_of_lt_of_le (by have := World.block_lt_of_cell? _ _ hx356_0; first | rwa [add_block] at this | exact this) GW355.out)
                                      replace hx356_0 := (HB.out.cell (World.block_lt_of_cell? w _ hx356_0)).trans hx356_0
                                      have HR356_0 := Aside0.mk hi356_0
                                      have HC356_0 := Aside0.mk hl356_0
                                      clear hi356_0 hl356_0
                                      replace hx356_0 := (cell_far (p := ⟨gb355, 0, none⟩) (by first | (rw [add_block]; exact hn356_0) | (show (Addr.add _ _).block ≠ _; rw [add_block]; exact hn356_0) | exact hn356_0) (.bool t347)).trans hx356_0
                                      replace hx356_0 := (cell_far (p := ⟨gb355, 1, none⟩) (by first | (rw [add_block]; exact hn356_1) | (show (Addr.add _ _).block ≠ _; rw [add_block]; exact hn356_1) | exact hn356_1) (.int .i64 t348)).trans hx356_0
                                      replace hx356_0 := (cell_far (p := ⟨gb355, 2, none⟩) (by first | (rw [add_block]; exact hn356_2) | (show (Addr.add _ _).block ≠ _; rw [add_block]; exact hn356_2) | exact hn356_2) (.int .i64 t349)).trans hx356_0
                                      replace hx356_0 := (cell_far (p := ⟨gb355, 3, none⟩) (by first | (rw [add_block]; exact hn356_3) | (show (Addr.add _ _).block ≠ _; rw [add_block]; exact hn356_3) | exact hn356_3) (.int .i64 t350)).trans hx356_0
                                      clear hn356_0
                                      clear hn356_1
                                      clear hn356_2
                                      clear hn356_3
                                      replace p356 := eq_true p356
                                      replace q356 := eq_true q356
                                      obtain ⟨Ao77, co77, eo77⟩ := Kd.R_slice HO353.out
                                      subst eo77
                                      go_wp2_with (first | ((with_reducible refine gate_store (t := 24) (p := 16) rfl ?_); refine HW.store_box2 rfl rfl 24 _ _ rfl rfl rfl BK355.out rfl (by kernel_rfl) (by intro q hq; simp only [List.mem_cons, List.not_mem_nil, or_false] at hq; rcases hq with rfl | rfl | rfl | rfl <;> rfl) ?_; intro w1_ hw1_ hk1_; simp only [List.toList_toArray, World.setCells, Nat.zero_add, Nat.reduceAdd] at hw1_; subst hw1_; have hcb355_0 := (blk_cell hk1_ 0).trans rfl; have hfb355_0 := blk_frozen hk1_ 0; have hcb355_1 := (blk_cell hk1_ 1).trans rfl; have hfb355_1 := blk_frozen hk1_ 1; have hcb355_2 := (blk_cell hk1_ 2).trans rfl; have hfb355_2 := blk_frozen hk1_ 2; have hcb355_3 := (blk_cell hk1_ 3).trans rfl; have hfb355_3 := blk_frozen hk1_ 3; clear hk1_) | ((with_reducible refine gate_store (t := 24) (p := 11) rfl ?_); refine HW.store_box2 rfl rfl 24 _ _ rfl rfl rfl BK339.out rfl (by kernel_rfl) (by intro q hq; simp only [List.mem_cons, List.not_mem_nil, or_false] at hq; rcases hq with rfl | rfl | rfl | rfl <;> rfl) ?_; intro w1_ hw1_ hk1_; simp only [List.toList_toArray, World.setCells, Nat.zero_add, Nat.reduceAdd] at hw1_; subst hw1_; have hcb339_0 := (blk_cell hk1_ 0).trans rfl; have hfb339_0 := blk_frozen hk1_ 0; have hcb339_1 := (blk_cell hk1_ 1).trans rfl; have hfb339_1 := blk_frozen hk1_ 1; have hcb339_2 := (blk_cell hk1_ 2).trans rfl; have hfb339_2 := blk_frozen hk1_ 2; have hcb339_3 := (blk_cell hk1_ 3).trans rfl; have hfb339_3 := blk_frozen hk1_ 3; clear hk1_) | ((with_reducible refine gate_callee (f := 15) rfl ?_); refine goesL_ (some 99) rfl rfl Try.func15 (by kernel_rfl) rfl #[.slice Ao77 t351.length co77, .slice A356_0 (rd_L1 l1 x13_2).length c356_0] rfl (by (try simp only [List.map_toArray, List.map_cons, List.map_nil]); first | done | rfl | (simp only [List.length_drop, List.length_take]; rfl)) ?_; (with_reducible refine (phaetonref01_SameBytes.calls _ _ t351 _ _ (rd_L1 l1 x13_2) true _ ?side1 ?side2 ?side3 ?side4 A38.out).mono ?_); (case side1 => refine (Kd.R_reads' (e := 5) (base := w.heap.size) (ok := fun k_ => (True ∧ some k_ ≠ (.slice Ao31 t342.length co31 : Value).ownBlock)) (n := t351.length) (c := co77) ?_).2.2; exact (by (with_reducible repeat (first | apply Kd.R_alloc | apply Kd.R_drewN | apply Kd.R_drew)); exact (Kd.R_mono (Kd.R_far (p := ⟨gb355, 3, none⟩) (Kd.R_far (p := ⟨gb355, 2, none⟩) (Kd.R_far (p := ⟨gb355, 1, none⟩) (Kd.R_far (p := ⟨gb355, 0, none⟩) (Kd.R_types HO353.out BK355.out (by decide)) (fun _ hk => hk.2) (.bool t347)) (fun _ hk => hk.2) (.int .i64 t348)) (fun _ hk => hk.2) (.int .i64 t349)) (fun _ hk => hk.2) (.int .i64 t350)) (fun _ h_ => h_.1)))); (case side2 => exact (Kd.R_reads' HO353.out).2.1); (case side3 => exact Kd.C_below HR356_0.out (by repeat (first | (with_reducible first | exact HB.out | apply below_alloc | apply pw_below_drewN | apply below_drew1 | refine below_set ?_ GE339.out | refine below_set ?_ GE355.out) | exact HB.out))); (case side4 => exact HC356_0.out); rintro e w' ⟨rfl, ⟨nd, rfl⟩⟩; refine ⟨_, rfl, ?_⟩; have hnb78 := NB339_355.out; have hnc78 := NB355_339.out; have hcz79_0 : w33.cell? ⟨gb339, 0, none⟩ = some (.bool false) := (blk_cell BK339.out 0).trans rfl; have hcz79_1 : w33.cell? ⟨gb339, 1, none⟩ = some (.int .i64 x340001_2) := (blk_cell BK339.out 1).trans rfl; have hcz79_2 : w33.cell? ⟨gb339, 2, none⟩ = some (.int .i64 x340002_2) := (blk_cell BK339.out 2).trans rfl; have hcz79_3 : w33.cell? ⟨gb339, 3, none⟩ = some (.int .i64 x340003_2) := (blk_cell BK339.out 3).trans rfl; have hfz79_0 := blk_frozen BK339.out 0; have hfz79_1 := blk_frozen BK339.out 1; have hfz79_2 := blk_frozen BK339.out 2; have hfz79_3 := blk_frozen BK339.out 3))
                                      go_meet
                                      case rel => exact ⟨_, (true), (by first | rfl | (simp; done) | (simp [*]; done)), H', ⟨by have := HJ5.out; have := HK2.out; have := HJ20.out; first | omega | exact Nat.le_refl _⟩, ⟨by (with_reducible repeat (first | apply Kd.R_alloc | apply Kd.R_drewN | apply Kd.R_drew)); exact Kd.R_mono (Kd.R_far (p := ⟨gb355, 3, none⟩) (Kd.R_far (p := ⟨gb355, 2, none⟩) (Kd.R_far (p := ⟨gb355, 1, none⟩) (Kd.R_far (p := ⟨gb355, 0, none⟩) (Kd.R_types HO_14.out BK355.out (by decide)) (fun _ hk => hk.2) (.bool t347)) (fun _ hk => hk.2) (.int .i64 t348)) (fun _ hk => hk.2) (.int .i64 t349)) (fun _ hk => hk.2) (.int .i64 t350)) (fun _ hk => trivial)⟩, ⟨by (with_reducible repeat (first | refine blk_drewN ?_ _ | refine blk_drew ?_ | refine blk_alloc ?_ _)); refine blk_far ?_ NB339_355.out _; (with_reducible repeat (first | refine blk_drewN ?_ _ | refine blk_drew ?_ | refine blk_alloc ?_ _)); refine blk_far ?_ NB339_355.out _; (with_reducible repeat (first | refine blk_drewN ?_ _ | refine blk_drew ?_ | refine blk_alloc ?_ _)); refine blk_far ?_ NB339_355.out _; (with_reducible repeat (first | refine blk_drewN ?_ _ | refine blk_drew ?_ | refine blk_alloc ?_ _)); refine blk_far ?_ NB339_355.out _; (with_reducible repeat (first | refine blk_drewN ?_ _ | refine blk_drew ?_ | refine blk_alloc ?_ _)); exact BK339.out⟩, ⟨by (with_reducible repeat (first | refine blk_drewN ?_ _ | refine blk_drew ?_ | refine blk_alloc ?_ _)); refine blk_put (cs := #[.bool t347, .int .i64 t348, .int .i64 t349, .int .i64 0]) ?_ 3 _ rfl; (with_reducible repeat (first | refine blk_drewN ?_ _ | refine blk_drew ?_ | refine blk_alloc ?_ _)); refine blk_put (cs := #[.bool t347, .int .i64 t348, .int .i64 0, .int .i64 0]) ?_ 2 _ rfl; (with_reducible repeat (first | refine blk_drewN ?_ _ | refine blk_drew ?_ | refine blk_alloc ?_ _)); refine blk_put (cs := #[.bool t347, .int .i64 0, .int .i64 0, .int .i64 0]) ?_ 1 _ rfl; (with_reducible repeat (first | refine blk_drewN ?_ _ | refine blk_drew ?_ | refine blk_alloc ?_ _)); refine blk_put (cs := #[.bool false, .int .i64 0, .int .i64 0, .int .i64 0]) ?_ 0 _ rfl; (with_reducible repeat (first | refine blk_drewN ?_ _ | refine blk_drew ?_ | refine blk_alloc ?_ _)); exact BK355.out⟩, ⟨by repeat (first | (with_reducible first | exact HB.out | apply below_alloc | apply pw_below_drewN | apply below_drew1 | refine below_set ?_ GE339.out | refine below_set ?_ GE355.out) | exact HB.out)⟩⟩
                                · replace c39 := Bool.eq_false_iff.mpr c39
                                  subst c39
                                  have H1 : (phaetonlaw16_TrustRow.j3 kj20 a0 l1 l2 t334 (wrap64 ((Int.tmod (wrap64 (a3)) 14) + 1)) x13_2 t342 true t347 t348 t349 t350) = some r := by rw [if_neg (show ¬ (false = true) by decide)] at H; exact H
                                  clear H
                                  have H := H1
                                  clear H1
                                  have H' := Aside0.mk H
                                  clear H
                                  have p356 : 0 ≤ (x13_2 : Int) := of_decide_eq_true (by first | (with_reducible assumption) | assumption)
                                  have q356 : x13_2 < (l1.length : Int) := of_decide_eq_true (by first | (with_reducible assumption) | assumption)
                                  obtain ⟨ad356, A356_0, c356_0, e356, hx356_0, hl356_0, hi356_0⟩ := at_L1 HR1.out x13_2 p356 q356
                                  obtain rfl : ad340 = ad356 := (by injection e356)
                                  have hn356_0 : ad340.block ≠ gb355 := Nat.ne_of_lt (Nat.lt_of_lt_of_le (by have := World.block_lt_of_cell? _ _ hx356_0; first | rwa [add_block] at this | exact this) GW355.out)
                                  have hn356_1 : ad340.block ≠ gb355 := Nat.ne_of_lt (Nat.lt_of_lt_of_le (by have := World.block_lt_of_cell? _ _ hx356_0; first | rwa [add_block] at this | exact this) GW355.out)
                                  have hn356_2 : ad340.block ≠ gb355 := Nat.ne_of_lt (Nat.lt_of_lt_of_le (by have := World.block_lt_of_cell? _ _ hx356_0; first | rwa [add_block] at this | exact this) GW355.out)
                                  have hn356_3 : ad340.block ≠ gb355 := Nat.ne_of_lt (Nat.lt_of_lt_of_le (by have := World.block_lt_of_cell? _ _ hx356_0; first | rwa [add_block] at this | exact this) GW355.out)
                                  replace hx356_0 := (HB.out.cell (World.block_lt_of_cell? w _ hx356_0)).trans hx356_0
                                  have HR356_0 := Aside0.mk hi356_0
                                  have HC356_0 := Aside0.mk hl356_0
                                  clear hi356_0 hl356_0
                                  replace hx356_0 := (cell_far (p := ⟨gb355, 0, none⟩) (by first | (rw [add_block]; exact hn356_0) | (show (Addr.add _ _).block ≠ _; rw [add_block]; exact hn356_0) | exact hn356_0) (.bool t347)).trans hx356_0
                                  replace hx356_0 := (cell_far (p := ⟨gb355, 1, none⟩) (by first | (rw [add_block]; exact hn356_1) | (show (Addr.add _ _).block ≠ _; rw [add_block]; exact hn356_1) | exact hn356_1) (.int .i64 t348)).trans hx356_0
                                  replace hx356_0 := (cell_far (p := ⟨gb355, 2, none⟩) (by first | (rw [add_block]; exact hn356_2) | (show (Addr.add _ _).block ≠ _; rw [add_block]; exact hn356_2) | exact hn356_2) (.int .i64 t349)).trans hx356_0
                                  replace hx356_0 := (cell_far (p := ⟨gb355, 3, none⟩) (by first | (rw [add_block]; exact hn356_3) | (show (Addr.add _ _).block ≠ _; rw [add_block]; exact hn356_3) | exact hn356_3) (.int .i64 t350)).trans hx356_0
                                  clear hn356_0
                                  clear hn356_1
                                  clear hn356_2
                                  clear hn356_3
                                  replace p356 := eq_true p356
                                  replace q356 := eq_true q356
                                  obtain ⟨Ao80, co80, eo80⟩ := Kd.R_slice HO353.out
                                  subst eo80
                                  go_wp2_with (first | ((with_reducible refine gate_store (t := 24) (p := 16) rfl ?_); refine HW.store_box2 rfl rfl 24 _ _ rfl rfl rfl BK355.out rfl (by kernel_rfl) (by intro q hq; simp only [List.mem_cons, List.not_mem_nil, or_false] at hq; rcases hq with rfl | rfl | rfl | rfl <;> rfl) ?_; intro w1_ hw1_ hk1_; simp only [List.toList_toArray, World.setCells, Nat.zero_add, Nat.reduceAdd] at hw1_; subst hw1_; have hcb355_0 := (blk_cell hk1_ 0).trans rfl; have hfb355_0 := blk_frozen hk1_ 0; have hcb355_1 := (blk_cell hk1_ 1).trans rfl; have hfb355_1 := blk_frozen hk1_ 1; have hcb355_2 := (blk_cell hk1_ 2).trans rfl; have hfb355_2 := blk_frozen hk1_ 2; have hcb355_3 := (blk_cell hk1_ 3).trans rfl; have hfb355_3 := blk_frozen hk1_ 3; clear hk1_) | ((with_reducible refine gate_callee (f := 15) rfl ?_); refine goesL_ (some 99) rfl rfl Try.func15 (by kernel_rfl) rfl #[.slice Ao80 t351.length co80, .slice A356_0 (rd_L1 l1 x13_2).length c356_0] rfl (by (try simp only [List.map_toArray, List.map_cons, List.map_nil]); first | done | rfl | (simp only [List.length_drop, List.length_take]; rfl)) ?_; (with_reducible refine (phaetonref01_SameBytes.calls _ _ t351 _ _ (rd_L1 l1 x13_2) false _ ?side1 ?side2 ?side3 ?side4 A38.out).mono ?_); (case side1 => refine (Kd.R_reads' (e := 5) (base := w.heap.size) (ok := fun k_ => (True ∧ some k_ ≠ (.slice Ao31 t342.length co31 : Value).ownBlock)) (n := t351.length) (c := co80) ?_).2.2; exact (by (with_reducible repeat (first | apply Kd.R_alloc | apply Kd.R_drewN | apply Kd.R_drew)); exact (Kd.R_mono (Kd.R_far (p := ⟨gb355, 3, none⟩) (Kd.R_far (p := ⟨gb355, 2, none⟩) (Kd.R_far (p := ⟨gb355, 1, none⟩) (Kd.R_far (p := ⟨gb355, 0, none⟩) (Kd.R_types HO353.out BK355.out (by decide)) (fun _ hk => hk.2) (.bool t347)) (fun _ hk => hk.2) (.int .i64 t348)) (fun _ hk => hk.2) (.int .i64 t349)) (fun _ hk => hk.2) (.int .i64 t350)) (fun _ h_ => h_.1)))); (case side2 => exact (Kd.R_reads' HO353.out).2.1); (case side3 => exact Kd.C_below HR356_0.out (by repeat (first | (with_reducible first | exact HB.out | apply below_alloc | apply pw_below_drewN | apply below_drew1 | refine below_set ?_ GE339.out | refine below_set ?_ GE355.out) | exact HB.out))); (case side4 => exact HC356_0.out); rintro e w' ⟨rfl, ⟨nd, rfl⟩⟩; refine ⟨_, rfl, ?_⟩))
                                  go_meet
                                  case rel => exact ⟨_, (true), (by first | rfl | (simp; done) | (simp [*]; done)), H', ⟨by have := HJ5.out; have := HK2.out; have := HJ20.out; first | omega | exact Nat.le_refl _⟩, ⟨by (with_reducible repeat (first | apply Kd.R_alloc | apply Kd.R_drewN | apply Kd.R_drew)); exact Kd.R_mono (Kd.R_far (p := ⟨gb355, 3, none⟩) (Kd.R_far (p := ⟨gb355, 2, none⟩) (Kd.R_far (p := ⟨gb355, 1, none⟩) (Kd.R_far (p := ⟨gb355, 0, none⟩) (Kd.R_types HO_14.out BK355.out (by decide)) (fun _ hk => hk.2) (.bool t347)) (fun _ hk => hk.2) (.int .i64 t348)) (fun _ hk => hk.2) (.int .i64 t349)) (fun _ hk => hk.2) (.int .i64 t350)) (fun _ hk => trivial)⟩, ⟨by (with_reducible repeat (first | refine blk_drewN ?_ _ | refine blk_drew ?_ | refine blk_alloc ?_ _)); refine blk_far ?_ NB339_355.out _; (with_reducible repeat (first | refine blk_drewN ?_ _ | refine blk_drew ?_ | refine blk_alloc ?_ _)); refine blk_far ?_ NB339_355.out _; (with_reducible repeat (first | refine blk_drewN ?_ _ | refine blk_drew ?_ | refine blk_alloc ?_ _)); refine blk_far ?_ NB339_355.out _; (with_reducible repeat (first | refine blk_drewN ?_ _ | refine blk_drew ?_ | refine blk_alloc ?_ _)); refine blk_far ?_ NB339_355.out _; (with_reducible repeat (first | refine blk_drewN ?_ _ | refine blk_drew ?_ | refine blk_alloc ?_ _)); exact BK339.out⟩, ⟨by (with_reducible repeat (first | refine blk_drewN ?_ _ | refine blk_drew ?_ | refine blk_alloc ?_ _)); refine blk_put (cs := #[.bool t347, .int .i64 t348, .int .i64 t349, .int .i64 0]) ?_ 3 _ rfl; (with_reducible repeat (first | refine blk_drewN ?_ _ | refine blk_drew ?_ | refine blk_alloc ?_ _)); refine blk_put (cs := #[.bool t347, .int .i64 t348, .int .i64 0, .int .i64 0]) ?_ 2 _ rfl; (with_reducible repeat (first | refine blk_drewN ?_ _ | refine blk_drew ?_ | refine blk_alloc ?_ _)); refine blk_put (cs := #[.bool t347, .int .i64 0, .int .i64 0, .int .i64 0]) ?_ 1 _ rfl; (with_reducible repeat (first | refine blk_drewN ?_ _ | refine blk_drew ?_ | refine blk_alloc ?_ _)); refine blk_put (cs := #[.bool false, .int .i64 0, .int .i64 0, .int .i64 0]) ?_ 0 _ rfl; (with_reducible repeat (first | refine blk_drewN ?_ _ | refine blk_drew ?_ | refine blk_alloc ?_ _)); exact BK355.out⟩, ⟨by repeat (first | (with_reducible first | exact HB.out | apply below_alloc | apply pw_below_drewN | apply below_drew1 | refine below_set ?_ GE339.out | refine below_set ?_ GE355.out) | exact HB.out)⟩⟩
                              · rw [if_neg c37] at H
                                exact absurd H (by simp)
                            · rw [if_neg c36] at H
                              exact absurd H (by simp)
                          case rest => as_aux_lemma =>
                            clear HC29
                            try clear c1
                            try clear c2
                            try clear p2
                            try clear c3
                            try clear p3
                            try clear q3
                            try clear hx3
                            try clear c4
                            try clear c5
                            try clear c6
                            try clear p6
                            try clear c7
                            try clear c8
                            try clear c8b0
                            try clear c8b1
                            try clear c9
                            try clear c10
                            try clear c11
                            try clear c15
                            try clear c15b0
                            try clear c16
                            try clear c16b0
                            try clear c17
                            try clear c17b0
                            try clear c17b1
                            try clear c18
                            try clear c19
                            try clear c20
                            try clear c23
                            try clear c23b0
                            try clear c24
                            try clear c24b0
                            try clear c24b1
                            try clear c25
                            try clear c25b0
                            try clear c27
                            try clear c34
                            try clear p34
                            try clear q34
                            try clear hx34
                            try clear c35
                            try clear p35
                            try clear q35
                            try clear hx35
                            try clear c36
                            try clear c36b0
                            try clear c37
                            try clear c37b0
                            try clear c39
                            try clear c40
                            try clear c41
                            try clear c41b0
                            try clear c41b1
                            try clear c42
                            try clear c42b0
                            try clear c42b1
                            try clear c43
                            try clear c43b0
                            try clear c44
                            try clear c44b0
                            try clear c44b1
                            try clear c46
                            try clear c50
                            try clear c53
                            try clear c57
                            try clear c59
                            try clear c59b0
                            try clear c60
                            try clear c60b0
                            try clear c60b1
                            try clear c62
                            try clear p64
                            try clear c66
                            try clear c69
                            try clear c72
                            try clear c72b0
                            try clear c72b1
                            try clear c74
                            try clear c78
                            try clear hcz14_0
                            try clear hcz14_1
                            try clear hcz14_2
                            try clear hcz14_3
                            try clear hcz26_0
                            try clear hcz26_1
                            try clear hcz26_2
                            try clear hcz26_3
                            try clear hcz30_0
                            try clear hcz30_1
                            try clear hcz30_2
                            try clear hcz30_3
                            try clear hcz35_0
                            try clear hcz35_1
                            try clear hcz35_2
                            try clear hcz35_3
                            try clear hcz47_0
                            try clear hcz47_1
                            try clear hcz47_2
                            try clear hcz47_3
                            try clear hcz48_0
                            try clear hcz48_1
                            try clear hcz48_2
                            try clear hcz48_3
                            try clear hcz51_0
                            try clear hcz51_1
                            try clear hcz51_2
                            try clear hcz51_3
                            try clear hcz54_0
                            try clear hcz54_1
                            try clear hcz54_2
                            try clear hcz54_3
                            try clear hcz55_0
                            try clear hcz55_1
                            try clear hcz55_2
                            try clear hcz55_3
                            try clear hcz58_0
                            try clear hcz58_1
                            try clear hcz58_2
                            try clear hcz58_3
                            try clear hcz63_0
                            try clear hcz63_1
                            try clear hcz63_2
                            try clear hcz63_3
                            try clear hcz64_0
                            try clear hcz64_1
                            try clear hcz64_2
                            try clear hcz64_3
                            try clear hcz67_0
                            try clear hcz67_1
                            try clear hcz67_2
                            try clear hcz67_3
                            try clear hcz70_0
                            try clear hcz70_1
                            try clear hcz70_2
                            try clear hcz70_3
                            try clear hcz71_0
                            try clear hcz71_1
                            try clear hcz71_2
                            try clear hcz71_3
                            try clear hcz75_0
                            try clear hcz75_1
                            try clear hcz75_2
                            try clear hcz75_3
                            try clear hcz76_0
                            try clear hcz76_1
                            try clear hcz76_2
                            try clear hcz76_3
                            try clear hcz79_0
                            try clear hcz79_1
                            try clear hcz79_2
                            try clear hcz79_3
                            try clear hfz14_0
                            try clear hfz14_1
                            try clear hfz14_2
                            try clear hfz14_3
                            try clear hfz26_0
                            try clear hfz26_1
                            try clear hfz26_2
                            try clear hfz26_3
                            try clear hfz30_0
                            try clear hfz30_1
                            try clear hfz30_2
                            try clear hfz30_3
                            try clear hfz35_0
                            try clear hfz35_1
                            try clear hfz35_2
                            try clear hfz35_3
                            try clear hfz47_0
                            try clear hfz47_1
                            try clear hfz47_2
                            try clear hfz47_3
                            try clear hfz48_0
                            try clear hfz48_1
                            try clear hfz48_2
                            try clear hfz48_3
                            try clear hfz51_0
                            try clear hfz51_1
                            try clear hfz51_2
                            try clear hfz51_3
                            try clear hfz54_0
                            try clear hfz54_1
                            try clear hfz54_2
                            try clear hfz54_3
                            try clear hfz55_0
                            try clear hfz55_1
                            try clear hfz55_2
                            try clear hfz55_3
                            try clear hfz58_0
                            try clear hfz58_1
                            try clear hfz58_2
                            try clear hfz58_3
                            try clear hfz63_0
                            try clear hfz63_1
                            try clear hfz63_2
                            try clear hfz63_3
                            try clear hfz64_0
                            try clear hfz64_1
                            try clear hfz64_2
                            try clear hfz64_3
                            try clear hfz67_0
                            try clear hfz67_1
                            try clear hfz67_2
                            try clear hfz67_3
                            try clear hfz70_0
                            try clear hfz70_1
                            try clear hfz70_2
                            try clear hfz70_3
                            try clear hfz71_0
                            try clear hfz71_1
                            try clear hfz71_2
                            try clear hfz71_3
                            try clear hfz75_0
                            try clear hfz75_1
                            try clear hfz75_2
                            try clear hfz75_3
                            try clear hfz76_0
                            try clear hfz76_1
                            try clear hfz76_2
                            try clear hfz76_3
                            try clear hfz79_0
                            try clear hfz79_1
                            try clear hfz79_2
                            try clear hfz79_3
                            try clear hx340_0
                            try clear hx341_0
                            try clear hx346_0
                            try clear hx356_0
                            try clear p2
                            try clear p3
                            try clear p340
                            try clear p341
                            try clear p346
                            try clear p356
                            try clear p6
                            try clear q3
                            try clear q340
                            try clear q341
                            try clear q346
                            try clear q356
                            obtain ⟨kq, x138_28, rfl, HA, HJ28, HO_14, BK339, BK355, HB⟩ := hcut
                            cases kq with
                            | zero => exact absurd HA.out (by simp [phaetonlaw16_TrustRow.j3])
                            | succ kj28 =>
                              have H := HA.out
                              clear HA
                              simp only [phaetonlaw16_TrustRow.j3] at H
                              by_cases c81 : x138_28 = true
                              · subst c81
                                have H1 : (none) = some r := by rw [if_pos rfl] at H; exact H
                                clear H
                                have H := H1
                                clear H1
                                exact absurd H (by simp)
                              · replace c81 := Bool.eq_false_iff.mpr c81
                                subst c81
                                have H1 : (if 0 ≤ x13_2 then (if x13_2 < (l2.length : Int) then (if (Int.tmod (rd l2 x13_2) 3) = 2 then ((trust_Check.f t347 t348 t349 t350 (wrap64 (a0)) t342 (wrap64 ((Int.tmod (wrap64 (a3)) 14) + 1))).bind fun bt359 => (if bt359.2.2.2.2.2 = 3 then (if (bt359.2.2.2.2.1.length : Int) = 0 then (if bt359.2.2.2.1 = 1 then (phaetonlaw16_TrustRow.l0 kj28 a0 l1 l2 t334 (wrap64 ((Int.tmod (wrap64 (a3)) 14) + 1)) 0 (wrap64 (x13_2 + 1)) bt359.1 bt359.2.1 bt359.2.2.1 bt359.2.2.2.1) else (none)) else (none)) else (none))) else (phaetonlaw16_TrustRow.l0 kj28 a0 l1 l2 t334 (wrap64 ((Int.tmod (wrap64 (a3)) 14) + 1)) 0 (wrap64 (x13_2 + 1)) t347 t348 t349 t350)) else (none)) else (none)) = some r := by rw [if_neg (show ¬ (false = true) by decide)] at H; exact H
                                clear H
                                have H := H1
                                clear H1
                                by_cases c82 : 0 ≤ x13_2
                                · rw [if_pos c82] at H
                                  have c82b0 : decide (0 ≤ x13_2) = true := decide_eq_true c82
                                  clear c82
                                  by_cases c83 : x13_2 < (l2.length : Int)
                                  · rw [if_pos c83] at H
                                    have c83b0 : decide (x13_2 < (l2.length : Int)) = true := decide_eq_true c83
                                    clear c83
                                    by_cases c84 : (Int.tmod (rd l2 x13_2) 3) = 2
                                    · rw [if_pos c84] at H
                                      have c84b0 : ((Int.tmod (rd l2 x13_2) 3) == 2) = true := beq_iff_eq.mpr c84
                                      have c84b1 : ((Int.tmod (rd l2 x13_2) 3) != 2) = false := bne_eq_false_iff_eq.mpr c84
                                      clear c84
                                      replace H := Option.bind_eq_some_iff.mp H
                                      obtain ⟨⟨t359, t360, t361, t362, t363, t366⟩, A850, H⟩ := H
                                      replace H : (if t366 = 3 then (if (t363.length : Int) = 0 then (if t362 = 1 then (phaetonlaw16_TrustRow.l0 kj28 a0 l1 l2 t334 (wrap64 ((Int.tmod (wrap64 (a3)) 14) + 1)) 0 (wrap64 (x13_2 + 1)) t359 t360 t361 t362) else (none)) else (none)) else (none)) = some r := H
                                      have A85 := Aside0.mk A850
                                      clear A850
                                      by_cases c86 : t366 = 3
                                      · rw [if_pos c86] at H
                                        have c86b0 : (t366 == 3) = true := beq_iff_eq.mpr c86
                                        have c86b1 : (t366 != 3) = false := bne_eq_false_iff_eq.mpr c86
                                        clear c86
                                        by_cases c87 : (t363.length : Int) = 0
                                        · rw [if_pos c87] at H
                                          have c87b0 : ((t363.length : Int) == 0) = true := beq_iff_eq.mpr c87
                                          have c87b1 : ((t363.length : Int) != 0) = false := bne_eq_false_iff_eq.mpr c87
                                          clear c87
                                          by_cases c88 : t362 = 1
                                          · rw [if_pos c88] at H
                                            have c88b0 : (t362 == 1) = true := beq_iff_eq.mpr c88
                                            have c88b1 : (t362 != 1) = false := bne_eq_false_iff_eq.mpr c88
                                            clear c88
                                            have H' := Aside0.mk H
                                            clear H
                                            have p358 : 0 ≤ (x13_2 : Int) := of_decide_eq_true (by first | (with_reducible assumption) | assumption)
                                            have q358 : x13_2 < (l2.length : Int) := of_decide_eq_true (by first | (with_reducible assumption) | assumption)
                                            obtain ⟨ad358, e358, hx358_0⟩ := Kd.at_int HR2.out x13_2 p358 q358
                                            cases e358
                                            replace hx358_0 := (HB.out.cell (World.block_lt_of_cell? w _ hx358_0)).trans hx358_0
                                            replace p358 := eq_true p358
                                            replace q358 := eq_true q358
                                            have hnb89 := NB355_339.out
                                            have hnc89 := NB339_355.out
                                            have hcz90_0 : wc.cell? ⟨gb355, 0, none⟩ = some (.bool t347) := (blk_cell BK355.out 0).trans rfl
                                            have hcz90_1 : wc.cell? ⟨gb355, 1, none⟩ = some (.int .i64 t348) := (blk_cell BK355.out 1).trans rfl
                                            have hcz90_2 : wc.cell? ⟨gb355, 2, none⟩ = some (.int .i64 t349) := (blk_cell BK355.out 2).trans rfl
                                            have hcz90_3 : wc.cell? ⟨gb355, 3, none⟩ = some (.int .i64 t350) := (blk_cell BK355.out 3).trans rfl
                                            have hfz90_0 := blk_frozen BK355.out 0
                                            have hfz90_1 := blk_frozen BK355.out 1
                                            have hfz90_2 := blk_frozen BK355.out 2
                                            have hfz90_3 := blk_frozen BK355.out 3
                                            go_wp2_with (first | ((with_reducible refine gate_store (t := 24) (p := 19) rfl ?_); refine HW.store_box2 rfl rfl 24 _ _ rfl rfl rfl BK367.out rfl (by kernel_rfl) (by intro q hq; simp only [List.mem_cons, List.not_mem_nil, or_false] at hq; rcases hq with rfl | rfl | rfl | rfl <;> rfl) ?_; intro w1_ hw1_ hk1_; have hg_ : World.grownBy _ w1_ (some gb367) := (by rw [hw1_]; exact HW.setCells_grown); clear hw1_; have n0_ := Aside0.mk hk1_; have n1_ := Aside0.mk (blk_grown BK355.out hg_ (fun e_ => NB355_367.out (Option.some.inj e_))); have n2_ := Aside0.mk (blk_grown BK339.out hg_ (fun e_ => NB339_367.out (Option.some.inj e_))); have n3_ := Aside0.mk (HB.out.grown hg_ HB.out.size (fun k_ e_ => (Option.some.inj e_) ▸ GE367.out)); clear BK367; have BK367 := n0_; clear BK355; have BK355 := n1_; clear BK339; have BK339 := n2_; clear HB; have HB := n3_; clear n0_ n1_ n2_ n3_; have hcb367_0 := (blk_cell BK367.out 0).trans rfl; have hfb367_0 := blk_frozen BK367.out 0; have hcb367_1 := (blk_cell BK367.out 1).trans rfl; have hfb367_1 := blk_frozen BK367.out 1; have hcb367_2 := (blk_cell BK367.out 2).trans rfl; have hfb367_2 := blk_frozen BK367.out 2; have hcb367_3 := (blk_cell BK367.out 3).trans rfl; have hfb367_3 := blk_frozen BK367.out 3; have hcb355_0 := (blk_cell BK355.out 0).trans rfl; have hfb355_0 := blk_frozen BK355.out 0; have hcb355_1 := (blk_cell BK355.out 1).trans rfl; have hfb355_1 := blk_frozen BK355.out 1; have hcb355_2 := (blk_cell BK355.out 2).trans rfl; have hfb355_2 := blk_frozen BK355.out 2; have hcb355_3 := (blk_cell BK355.out 3).trans rfl; have hfb355_3 := blk_frozen BK355.out 3; have hcb339_0 := (blk_cell BK339.out 0).trans rfl; have hfb339_0 := blk_frozen BK339.out 0; have hcb339_1 := (blk_cell BK339.out 1).trans rfl; have hfb339_1 := blk_frozen BK339.out 1; have hcb339_2 := (blk_cell BK339.out 2).trans rfl; have hfb339_2 := blk_frozen BK339.out 2; have hcb339_3 := (blk_cell BK339.out 3).trans rfl; have hfb339_3 := blk_frozen BK339.out 3; clear hg_ hk1_) | ((with_reducible refine gate_store (t := 24) (p := 16) rfl ?_); refine HW.store_box2 rfl rfl 24 _ _ rfl rfl rfl BK355.out rfl (by kernel_rfl) (by intro q hq; simp only [List.mem_cons, List.not_mem_nil, or_false] at hq; rcases hq with rfl | rfl | rfl | rfl <;> rfl) ?_; intro w1_ hw1_ hk1_; have hg_ : World.grownBy _ w1_ (some gb355) := (by rw [hw1_]; exact HW.setCells_grown); clear hw1_; have n0_ := Aside0.mk hk1_; have n1_ := Aside0.mk (blk_grown BK367.out hg_ (fun e_ => NB367_355.out (Option.some.inj e_))); have n2_ := Aside0.mk (blk_grown BK339.out hg_ (fun e_ => NB339_355.out (Option.some.inj e_))); have n3_ := Aside0.mk (HB.out.grown hg_ HB.out.size (fun k_ e_ => (Option.some.inj e_) ▸ GE355.out)); clear BK355; have BK355 := n0_; clear BK367; have BK367 := n1_; clear BK339; have BK339 := n2_; clear HB; have HB := n3_; clear n0_ n1_ n2_ n3_; have hcb367_0 := (blk_cell BK367.out 0).trans rfl; have hfb367_0 := blk_frozen BK367.out 0; have hcb367_1 := (blk_cell BK367.out 1).trans rfl; have hfb367_1 := blk_frozen BK367.out 1; have hcb367_2 := (blk_cell BK367.out 2).trans rfl; have hfb367_2 := blk_frozen BK367.out 2; have hcb367_3 := (blk_cell BK367.out 3).trans rfl; have hfb367_3 := blk_frozen BK367.out 3; have hcb355_0 := (blk_cell BK355.out 0).trans rfl; have hfb355_0 := blk_frozen BK355.out 0; have hcb355_1 := (blk_cell BK355.out 1).trans rfl; have hfb355_1 := blk_frozen BK355.out 1; have hcb355_2 := (blk_cell BK355.out 2).trans rfl; have hfb355_2 := blk_frozen BK355.out 2; have hcb355_3 := (blk_cell BK355.out 3).trans rfl; have hfb355_3 := blk_frozen BK355.out 3; have hcb339_0 := (blk_cell BK339.out 0).trans rfl; have hfb339_0 := blk_frozen BK339.out 0; have hcb339_1 := (blk_cell BK339.out 1).trans rfl; have hfb339_1 := blk_frozen BK339.out 1; have hcb339_2 := (blk_cell BK339.out 2).trans rfl; have hfb339_2 := blk_frozen BK339.out 2; have hcb339_3 := (blk_cell BK339.out 3).trans rfl; have hfb339_3 := blk_frozen BK339.out 3; clear hg_ hk1_) | ((with_reducible refine gate_store (t := 24) (p := 11) rfl ?_); refine HW.store_box2 rfl rfl 24 _ _ rfl rfl rfl BK339.out rfl (by kernel_rfl) (by intro q hq; simp only [List.mem_cons, List.not_mem_nil, or_false] at hq; rcases hq with rfl | rfl | rfl | rfl <;> rfl) ?_; intro w1_ hw1_ hk1_; have hg_ : World.grownBy _ w1_ (some gb339) := (by rw [hw1_]; exact HW.setCells_grown); clear hw1_; have n0_ := Aside0.mk hk1_; have n1_ := Aside0.mk (blk_grown BK367.out hg_ (fun e_ => NB367_339.out (Option.some.inj e_))); have n2_ := Aside0.mk (blk_grown BK355.out hg_ (fun e_ => NB355_339.out (Option.some.inj e_))); have n3_ := Aside0.mk (HB.out.grown hg_ HB.out.size (fun k_ e_ => (Option.some.inj e_) ▸ GE339.out)); clear BK339; have BK339 := n0_; clear BK367; have BK367 := n1_; clear BK355; have BK355 := n2_; clear HB; have HB := n3_; clear n0_ n1_ n2_ n3_; have hcb367_0 := (blk_cell BK367.out 0).trans rfl; have hfb367_0 := blk_frozen BK367.out 0; have hcb367_1 := (blk_cell BK367.out 1).trans rfl; have hfb367_1 := blk_frozen BK367.out 1; have hcb367_2 := (blk_cell BK367.out 2).trans rfl; have hfb367_2 := blk_frozen BK367.out 2; have hcb367_3 := (blk_cell BK367.out 3).trans rfl; have hfb367_3 := blk_frozen BK367.out 3; have hcb355_0 := (blk_cell BK355.out 0).trans rfl; have hfb355_0 := blk_frozen BK355.out 0; have hcb355_1 := (blk_cell BK355.out 1).trans rfl; have hfb355_1 := blk_frozen BK355.out 1; have hcb355_2 := (blk_cell BK355.out 2).trans rfl; have hfb355_2 := blk_frozen BK355.out 2; have hcb355_3 := (blk_cell BK355.out 3).trans rfl; have hfb355_3 := blk_frozen BK355.out 3; have hcb339_0 := (blk_cell BK339.out 0).trans rfl; have hfb339_0 := blk_frozen BK339.out 0; have hcb339_1 := (blk_cell BK339.out 1).trans rfl; have hfb339_1 := blk_frozen BK339.out 1; have hcb339_2 := (blk_cell BK339.out 2).trans rfl; have hfb339_2 := blk_frozen BK339.out 2; have hcb339_3 := (blk_cell BK339.out 3).trans rfl; have hfb339_3 := blk_frozen BK339.out 3; clear hg_ hk1_) | ((with_reducible refine gate_callee (f := 19) rfl ?_); refine goesL_ (some 151) rfl rfl Try.func19 (by kernel_rfl) rfl #[.agg #[.bool t347, .int .i64 t348, .int .i64 t349, .int .i64 t350], .int .i64 (wrap64 (a0)), .slice Ao31 t342.length co31, .int .i64 (wrap64 ((Int.tmod (wrap64 (a3)) 14) + 1))] rfl (by (try simp only [List.map_toArray, List.map_cons, List.map_nil]); first | done | rfl | (simp only [List.length_drop, List.length_take]; rfl)) ?_; (with_reducible refine (trust_Check.calls t347 t348 t349 t350 (wrap64 (a0)) _ _ t342 (wrap64 ((Int.tmod (wrap64 (a3)) 14) + 1)) t359 t360 t361 t362 t363 t366 _ ?side1 ?side2 A85.out).mono ?_); (case side1 => repeat (first | exact (Kd.R_reads' HO_14.out).2.2 | (with_reducible refine Kd.C_alloc ?_ _) | (with_reducible refine Kd.C_drewN ?_ _) | (with_reducible refine Kd.C_drew ?_))); (case side2 => exact (Kd.R_reads' HO_14.out).2.1); rintro e w91 ⟨v364, rfl, ho0, hb⟩; refine ⟨_, rfl, ?_⟩; have n0_ := Aside0.mk (Kd.R_elder' (by (with_reducible repeat (first | apply Kd.R_alloc | apply Kd.R_drewN | apply Kd.R_drew)); exact HO_14.out) (Kd.R_base ho0) hb); have n1_ := Aside0.mk (Kd.R_lower (Kd.R_new' ho0 (Kd.R_lt (by (with_reducible repeat (first | apply Kd.R_alloc | apply Kd.R_drewN | apply Kd.R_drew)); exact HO_14.out))) (below_size (by repeat (first | (with_reducible first | exact HB.out | apply below_alloc | apply pw_below_drewN | apply below_drew1 | refine below_set ?_ GE339.out | refine below_set ?_ GE355.out) | exact HB.out)))); have n2_ := Aside0.mk (blk_below (g := gb339) (o := .cells #[.bool x340000_2, .int .i64 x340001_2, .int .i64 x340002_2, .int .i64 x340003_2] 24 (0, 0)) (by (with_reducible repeat (first | refine blk_drewN ?_ _ | refine blk_drew ?_ | refine blk_alloc ?_ _)); exact BK339.out) hb); have n3_ := Aside0.mk (blk_below (g := gb355) (o := .cells #[.bool t347, .int .i64 t348, .int .i64 t349, .int .i64 t350] 24 (0, 0)) (by (with_reducible repeat (first | refine blk_drewN ?_ _ | refine blk_drew ?_ | refine blk_alloc ?_ _)); exact BK355.out) hb); have n4_ := Aside0.mk (below_step (by repeat (first | (with_reducible first | exact HB.out | apply below_alloc | apply pw_below_drewN | apply below_drew1 | refine below_set ?_ GE339.out | refine below_set ?_ GE355.out) | exact HB.out)) hb); clear HO_14; clear BK339; clear BK355; clear HB; have HO_14 := n0_; have HO365 := n1_; have BK339 := n2_; have BK355 := n3_; have HB := n4_; clear n0_ n1_ n2_ n3_ n4_; (try clear hb); (try clear hb2); (try clear hk); (try clear hi); (try clear ho0)) | ((with_reducible refine gate_dst (N := 19) rfl ?_); (try (refine gate_guard (by rfl) ?_; dsimp only)); refine box_event ?hg (N := 19) ?hd (cs := #[.bool false, .int .i64 0, .int .i64 0, .int .i64 0]) (t := 24) ?hr ?_; (case hd => rfl); (case hg => rfl); (case hr => first | (go_simp; done) | (go_simp; rfl)); intro gb367 hg w92 hbox hb; have n0_ := Aside0.mk (Kd.R_below (by (with_reducible repeat (first | apply Kd.R_alloc | apply Kd.R_drewN | apply Kd.R_drew)); exact HO_14.out) hb); have n1_ := Aside0.mk (Kd.R_below (by (with_reducible repeat (first | apply Kd.R_alloc | apply Kd.R_drewN | apply Kd.R_drew)); exact HO365.out) hb); have n2_ := Aside0.mk (blk_below (g := gb339) (o := .cells #[.bool x340000_2, .int .i64 x340001_2, .int .i64 x340002_2, .int .i64 x340003_2] 24 (0, 0)) (by (with_reducible repeat (first | refine blk_drewN ?_ _ | refine blk_drew ?_ | refine blk_alloc ?_ _)); exact BK339.out) hb); have n3_ := Aside0.mk (blk_below (g := gb355) (o := .cells #[.bool t347, .int .i64 t348, .int .i64 t349, .int .i64 t350] 24 (0, 0)) (by (with_reducible repeat (first | refine blk_drewN ?_ _ | refine blk_drew ?_ | refine blk_alloc ?_ _)); exact BK355.out) hb); have n4_ := Aside0.mk (below_step (by repeat (first | (with_reducible first | exact HB.out | apply below_alloc | apply pw_below_drewN | apply below_drew1 | refine below_set ?_ GE339.out | refine below_set ?_ GE355.out) | exact HB.out)) hb); have n5_ := Aside0.mk (hbox); have n6_ := Aside0.mk ((by rw [hg]; exact (below_size (by repeat (first | (with_reducible first | exact HB.out | apply below_alloc | apply pw_below_drewN | apply below_drew1 | refine below_set ?_ GE339.out | refine below_set ?_ GE355.out) | exact HB.out))) : w.heap.size ≤ gb367)); have n7_ := Aside0.mk ((by rw [hg]; exact (below_size (by repeat (first | (with_reducible first | exact HB.out | apply below_alloc | apply pw_below_drewN | apply below_drew1 | refine below_set ?_ GE339.out | refine below_set ?_ GE355.out) | exact HB.out))) : w.heap.size ≤ gb367)); have n8_ := Aside0.mk ((by rw [hg]; exact Nat.ne_of_lt (blk_lt (g := gb339) (o := .cells #[.bool x340000_2, .int .i64 x340001_2, .int .i64 x340002_2, .int .i64 x340003_2] 24 (0, 0)) (by (with_reducible repeat (first | refine blk_drewN ?_ _ | refine blk_drew ?_ | refine blk_alloc ?_ _)); exact BK339.out)) : gb339 ≠ gb367)); have n9_ := Aside0.mk ((by rw [hg]; exact Nat.ne_of_gt (blk_lt (g := gb339) (o := .cells #[.bool x340000_2, .int .i64 x340001_2, .int .i64 x340002_2, .int .i64 x340003_2] 24 (0, 0)) (by (with_reducible repeat (first | refine blk_drewN ?_ _ | refine blk_drew ?_ | refine blk_alloc ?_ _)); exact BK339.out)) : gb367 ≠ gb339)); have n10_ := Aside0.mk ((by rw [hg]; exact Nat.ne_of_lt (blk_lt (g := gb355) (o := .cells #[.bool t347, .int .i64 t348, .int .i64 t349, .int .i64 t350] 24 (0, 0)) (by (with_reducible repeat (first | refine blk_drewN ?_ _ | refine blk_drew ?_ | refine blk_alloc ?_ _)); exact BK355.out)) : gb355 ≠ gb367)); have n11_ := Aside0.mk ((by rw [hg]; exact Nat.ne_of_gt (blk_lt (g := gb355) (o := .cells #[.bool t347, .int .i64 t348, .int .i64 t349, .int .i64 t350] 24 (0, 0)) (by (with_reducible repeat (first | refine blk_drewN ?_ _ | refine blk_drew ?_ | refine blk_alloc ?_ _)); exact BK355.out)) : gb367 ≠ gb355)); clear HO_14; clear HO365; clear BK339; clear BK355; clear HB; have HO_14 := n0_; have HO365 := n1_; have BK339 := n2_; have BK355 := n3_; have HB := n4_; have BK367 := n5_; have GW367 := n6_; have GE367 := n7_; have NB339_367 := n8_; have NB367_339 := n9_; have NB355_367 := n10_; have NB367_355 := n11_; clear n0_ n1_ n2_ n3_ n4_ n5_ n6_ n7_ n8_ n9_ n10_ n11_; clear hb hbox hg; have hnb93 := NB367_339.out; have hnc93 := NB339_367.out; have hnb94 := NB367_355.out; have hnc94 := NB355_367.out; have hcz95_0 : w92.cell? ⟨gb367, 0, none⟩ = some (.bool false) := (blk_cell BK367.out 0).trans rfl; have hcz95_1 : w92.cell? ⟨gb367, 1, none⟩ = some (.int .i64 0) := (blk_cell BK367.out 1).trans rfl; have hcz95_2 : w92.cell? ⟨gb367, 2, none⟩ = some (.int .i64 0) := (blk_cell BK367.out 2).trans rfl; have hcz95_3 : w92.cell? ⟨gb367, 3, none⟩ = some (.int .i64 0) := (blk_cell BK367.out 3).trans rfl; have hfz95_0 := blk_frozen BK367.out 0; have hfz95_1 := blk_frozen BK367.out 1; have hfz95_2 := blk_frozen BK367.out 2; have hfz95_3 := blk_frozen BK367.out 3; obtain ⟨Ao96, co96, eo96⟩ := Kd.R_slice HO365.out; subst eo96; have hcz97_0 : w92.cell? ⟨gb355, 0, none⟩ = some (.bool t347) := (blk_cell BK355.out 0).trans rfl; have hcz97_1 : w92.cell? ⟨gb355, 1, none⟩ = some (.int .i64 t348) := (blk_cell BK355.out 1).trans rfl; have hcz97_2 : w92.cell? ⟨gb355, 2, none⟩ = some (.int .i64 t349) := (blk_cell BK355.out 2).trans rfl; have hcz97_3 : w92.cell? ⟨gb355, 3, none⟩ = some (.int .i64 t350) := (blk_cell BK355.out 3).trans rfl; have hfz97_0 := blk_frozen BK355.out 0; have hfz97_1 := blk_frozen BK355.out 1; have hfz97_2 := blk_frozen BK355.out 2; have hfz97_3 := blk_frozen BK355.out 3; have hcz98_0 : w92.cell? ⟨gb339, 0, none⟩ = some (.bool x340000_2) := (blk_cell BK339.out 0).trans rfl; have hcz98_1 : w92.cell? ⟨gb339, 1, none⟩ = some (.int .i64 x340001_2) := (blk_cell BK339.out 1).trans rfl; have hcz98_2 : w92.cell? ⟨gb339, 2, none⟩ = some (.int .i64 x340002_2) := (blk_cell BK339.out 2).trans rfl; have hcz98_3 : w92.cell? ⟨gb339, 3, none⟩ = some (.int .i64 x340003_2) := (blk_cell BK339.out 3).trans rfl; have hfz98_0 := blk_frozen BK339.out 0; have hfz98_1 := blk_frozen BK339.out 1; have hfz98_2 := blk_frozen BK339.out 2; have hfz98_3 := blk_frozen BK339.out 3))
                                            go_roundg kj28
                                            case measure => have := HJ5.out; have := HK2.out; have := HJ20.out; have := HJ28.out; omega
                                            case rel => exact ⟨(0), (wrap64 (x13_2 + 1)), (t359), (t360), (t361), (t362), (by first | rfl | (simp; done) | (simp [*]; done)), (by first | rfl | (simp; done) | (simp [*]; done)), H', ⟨by have := HJ5.out; have := HK2.out; have := HJ20.out; have := HJ28.out; omega⟩, ⟨by (with_reducible repeat (first | refine blk_drewN ?_ _ | refine blk_drew ?_ | refine blk_alloc ?_ _)); exact BK339.out⟩, ⟨by repeat (first | (with_reducible first | exact HB.out | apply below_alloc | apply pw_below_drewN | apply below_drew1 | refine below_set ?_ GE339.out | refine below_set ?_ GE355.out | refine below_set ?_ GE367.out) | exact HB.out)⟩⟩
                                          · rw [if_neg c88] at H
                                            exact absurd H (by simp)
                                        · rw [if_neg c87] at H
                                          exact absurd H (by simp)
                                      · rw [if_neg c86] at H
                                        exact absurd H (by simp)
                                    · rw [if_neg c84] at H
                                      have c84b0 : ((Int.tmod (rd l2 x13_2) 3) == 2) = false := beq_eq_false_iff_ne.mpr c84
                                      have c84b1 : ((Int.tmod (rd l2 x13_2) 3) != 2) = true := bne_iff_ne.mpr c84
                                      have H' := Aside0.mk H
                                      clear H
                                      have p358 : 0 ≤ (x13_2 : Int) := of_decide_eq_true (by first | (with_reducible assumption) | assumption)
                                      have q358 : x13_2 < (l2.length : Int) := of_decide_eq_true (by first | (with_reducible assumption) | assumption)
                                      obtain ⟨ad358, e358, hx358_0⟩ := Kd.at_int HR2.out x13_2 p358 q358
                                      cases e358
                                      replace hx358_0 := (HB.out.cell (World.block_lt_of_cell? w _ hx358_0)).trans hx358_0
                                      replace p358 := eq_true p358
                                      replace q358 := eq_true q358
                                      have hnb99 := NB355_339.out
                                      have hnc99 := NB339_355.out
                                      have hcz100_0 : wc.cell? ⟨gb355, 0, none⟩ = some (.bool t347) := (blk_cell BK355.out 0).trans rfl
                                      have hcz100_1 : wc.cell? ⟨gb355, 1, none⟩ = some (.int .i64 t348) := (blk_cell BK355.out 1).trans rfl
                                      have hcz100_2 : wc.cell? ⟨gb355, 2, none⟩ = some (.int .i64 t349) := (blk_cell BK355.out 2).trans rfl
                                      have hcz100_3 : wc.cell? ⟨gb355, 3, none⟩ = some (.int .i64 t350) := (blk_cell BK355.out 3).trans rfl
                                      have hfz100_0 := blk_frozen BK355.out 0
                                      have hfz100_1 := blk_frozen BK355.out 1
                                      have hfz100_2 := blk_frozen BK355.out 2
                                      have hfz100_3 := blk_frozen BK355.out 3
                                      have hcz101_0 : wc.cell? ⟨gb339, 0, none⟩ = some (.bool x340000_2) := (blk_cell BK339.out 0).trans rfl
                                      have hcz101_1 : wc.cell? ⟨gb339, 1, none⟩ = some (.int .i64 x340001_2) := (blk_cell BK339.out 1).trans rfl
                                      have hcz101_2 : wc.cell? ⟨gb339, 2, none⟩ = some (.int .i64 x340002_2) := (blk_cell BK339.out 2).trans rfl
                                      have hcz101_3 : wc.cell? ⟨gb339, 3, none⟩ = some (.int .i64 x340003_2) := (blk_cell BK339.out 3).trans rfl
                                      have hfz101_0 := blk_frozen BK339.out 0
                                      have hfz101_1 := blk_frozen BK339.out 1
                                      have hfz101_2 := blk_frozen BK339.out 2
                                      have hfz101_3 := blk_frozen BK339.out 3
                                      go_wp2
                                      go_roundg kj28
                                      case measure => have := HJ5.out; have := HK2.out; have := HJ20.out; have := HJ28.out; omega
                                      case rel => exact ⟨(0), (wrap64 (x13_2 + 1)), (t347), (t348), (t349), (t350), (by first | rfl | (simp; done) | (simp [*]; done)), (by first | rfl | (simp; done) | (simp [*]; done)), H', ⟨by have := HJ5.out; have := HK2.out; have := HJ20.out; have := HJ28.out; omega⟩, ⟨by (with_reducible repeat (first | refine blk_drewN ?_ _ | refine blk_drew ?_ | refine blk_alloc ?_ _)); refine blk_put (cs := #[.bool t347, .int .i64 t348, .int .i64 t349, .int .i64 x340003_2]) ?_ 3 _ rfl; (with_reducible repeat (first | refine blk_drewN ?_ _ | refine blk_drew ?_ | refine blk_alloc ?_ _)); refine blk_put (cs := #[.bool t347, .int .i64 t348, .int .i64 x340002_2, .int .i64 x340003_2]) ?_ 2 _ rfl; (with_reducible repeat (first | refine blk_drewN ?_ _ | refine blk_drew ?_ | refine blk_alloc ?_ _)); refine blk_put (cs := #[.bool t347, .int .i64 x340001_2, .int .i64 x340002_2, .int .i64 x340003_2]) ?_ 1 _ rfl; (with_reducible repeat (first | refine blk_drewN ?_ _ | refine blk_drew ?_ | refine blk_alloc ?_ _)); refine blk_put (cs := #[.bool x340000_2, .int .i64 x340001_2, .int .i64 x340002_2, .int .i64 x340003_2]) ?_ 0 _ rfl; (with_reducible repeat (first | refine blk_drewN ?_ _ | refine blk_drew ?_ | refine blk_alloc ?_ _)); exact BK339.out⟩, ⟨by repeat (first | (with_reducible first | exact HB.out | apply below_alloc | apply pw_below_drewN | apply below_drew1 | refine below_set ?_ GE339.out | refine below_set ?_ GE355.out) | exact HB.out)⟩⟩
                                  · rw [if_neg c83] at H
                                    exact absurd H (by simp)
                                · rw [if_neg c82] at H
                                  exact absurd H (by simp)
                  · replace c20 := Bool.eq_false_iff.mpr c20
                    subst c20
                    have H1 : (none) = some r := by rw [if_neg (show ¬ (false = true) by decide)] at H; exact H
                    clear H
                    have H := H1
                    clear H1
                    exact absurd H (by simp)
              · rw [if_neg c16] at H
                exact absurd H (by simp)
            · rw [if_neg c15] at H
              have c15b0 : decide (x13_2 < (l1.length : Int)) = false := decide_eq_false c15
              clear c15
              by_cases c102 : t334 = true
              · subst c102
                have H1 : (some true) = some r := by rw [if_pos rfl] at H; exact H
                clear H
                have H := H1
                clear H1
                obtain rfl := Option.some.inj H
                go_wp2
                go_ret
                exact ⟨by first | rfl | (simp [errW_none, errW_some] <;> rfl) | (simp [*, errW_none, errW_some] <;> rfl), by repeat (first | (with_reducible first | exact HB.out | apply below_alloc | apply pw_below_drewN | apply below_drew1 | refine below_set ?_ GE339.out) | exact HB.out)⟩
              · replace c102 := Bool.eq_false_iff.mpr c102
                subst c102
                have H1 : (none) = some r := by rw [if_neg (show ¬ (false = true) by decide)] at H; exact H
                clear H
                have H := H1
                clear H1
                exact absurd H (by simp)

/-- THE ONE PURE STATEMENT of phaetonlaw16_TrustRow. -/
def phaetonlaw16_TrustRow.Pure : Prop := ∀ (a0 : Int) (l1 : List (List Int)) (l2 : List Int) (a3 : Int), (Lit.int .u16 a0).wf = true → l1.length ≤ maxLen → (∀ x ∈ l1, (fun (l : List Int) => ∀ x ∈ l, (fun (x : Int) => (Lit.int .u8 x).wf = true) x) x) → l2.length ≤ maxLen → l2.length * 1 ≤ 140737488351232 → (∀ x ∈ l2, (fun (x : Int) => (Lit.int .u8 x).wf = true) x) → (Lit.int .u8 a3).wf = true → ∃ k, phaetonlaw16_TrustRow.f k a0 l1 l2 a3 = some true
theorem phaetonlaw16_TrustRow.walk (P : phaetonlaw16_TrustRow.Pure) (a0 : Int) (A1 : Option Addr) (c1 : Nat) (l1 : List (List Int)) (A2 : Option Addr) (c2 : Nat) (l2 : List Int) (a3 : Int) (w : World) (hw0 : (Lit.int .u16 a0).wf = true) (hw1 : ∀ x ∈ l1, (fun (l : List Int) => ∀ x ∈ l, (fun (x : Int) => (Lit.int .u8 x).wf = true) x) x) (hr1 : Kd.C (Kd.slice 5 (Kd.int .u8)) w A1 l1.length l1) (hc1 : l1.length ≤ c1) (y2 : l2.length * 1 ≤ 140737488351232) (hw2 : ∀ x ∈ l2, (fun (x : Int) => (Lit.int .u8 x).wf = true) x) (hr2 : Kd.C (Kd.int .u8) w A2 l2.length l2) (hc2 : l2.length ≤ c2) (hw3 : (Lit.int .u8 a3).wf = true) :
    Calls Try.prog 7 #[.int .u16 a0, .slice A1 l1.length c1, .slice A2 l2.length c2, .int .u8 a3] w fun e w' => e = .returned (.bool true) ∧ Below w.heap.size w w' := by
  obtain ⟨k, h⟩ := P a0 l1 l2 a3 hw0 (by have := hr1.2.1; unfold maxLen; omega) hw1 (by have := hr2.2.1; unfold maxLen; omega) y2 hw2 hw3
  refine (phaetonlaw16_TrustRow.calls k a0 _ _ l1 _ _ l2 a3 true w hr1 hc1 hr2 hc2 h).mono ?_
  rintro e w' ⟨rfl, hd⟩
  exact ⟨rfl, hd⟩

end Go.Proofs.Ytfjffajmagefkaa.Px

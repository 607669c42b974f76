-- Written by myprint.py, a program of this session's, over the kit's print.py; not a text of print.sh's own.
import Derived.Test.YtfjffajmagefkaaPx0
import Derived.Test.YtfjffajmagefkaaPx2
import Derived.Test.YtfjffajmagefkaaPx3
import Derived.Test.YtfjffajmagefkaaPx4
namespace Go.Proofs.Ytfjffajmagefkaa.Px
open Go.RowKit Go.Proofs.YtfjffajmagefkaaW.PrintWords Go.Proofs.YtfjffajmagefkaaW.PrintLast Go.Proofs.YtfjffajmagefkaaW.PrintMore
attribute [local go_sem] max2_int min2_int max_two min_two max_three min_three max_four min_four   -- for this text's walks alone
set_option linter.unusedVariables false
set_option linter.unusedSimpArgs false

/-! ### phaetonlaw16_TrustBack: function 4 -/
def phaetonlaw16_TrustBack.j0 : Nat → Int → List Int → Int → Bool → Int → List Int → Bool → Bool → Option (Bool)
  | 0, _, _, _, _, _, _, _, _ => none
  | k + 1, x0, x2, x3, x9, x10, x11, x12, x45 => if x45 = true then (none) else (if x12 = true then ((trust_Open.f (wrap64 (x0)) x11).bind fun bt294 => (if bt294.2.2 = true then (if bt294.2.1 = x10 then ((phaetonref01_SameBytes.f bt294.1 x2).bind fun t299 => (if t299 = true then (if (x11.length : Int) = (wrap64 ((x2.length : Int) + 2)) then (if (wrap64 (8 * (x11.length : Int))) = 0 then (none) else ((some (([] : List Int) : List Int)).bind fun y300 => (if y300.length + x11.length < 140737488355328 then ((some (y300 ++ x11 : List Int)).bind fun y303 => (if 0 ≤ (wrap64 (Int.tdiv (Int.tmod (wrap64 (x3)) (wrap64 (8 * (x11.length : Int)))) 8)) then (if (wrap64 (Int.tdiv (Int.tmod (wrap64 (x3)) (wrap64 (8 * (x11.length : Int)))) 8)) < (y303.length : Int) then (if 0 ≤ (Int.tmod (Int.tmod (wrap64 (x3)) (wrap64 (8 * (x11.length : Int)))) 8) then ((trust_Open.f (wrap64 (x0)) (y303.set ((wrap64 (Int.tdiv (Int.tmod (wrap64 (x3)) (wrap64 (8 * (x11.length : Int)))) 8)) : Int).toNat (Go.bits .xor .u8 (rd y303 (wrap64 (Int.tdiv (Int.tmod (wrap64 (x3)) (wrap64 (8 * (x11.length : Int)))) 8))) (shl .u8 1 (Int.tmod (Int.tmod (wrap64 (x3)) (wrap64 (8 * (x11.length : Int)))) 8))))).bind fun bt308 => (if x9 = true then (if bt308.2.2 = true then (none) else (some true)) else (none))) else (none)) else (none)) else (none))) else (none)))) else (none)) else (none))) else (none)) else (none))) else (if x9 = true then (if (x11.length : Int) = 0 then (some true) else (none)) else (none)))
def phaetonlaw16_TrustBack.f (k : Nat) (a0 : Int) (a1 : Int) (l2 : List Int) (a3 : Int) : Option (Bool) := (phaetonlaw16_head.f k).bind fun t289 => (if (l2.length : Int) > 100 then (if t289 = true then (some true) else (none)) else ((trust_Wrap.f (wrap64 (a0)) (Int.tmod (wrap64 (a1)) 20) l2).bind fun bt290 => (if (Int.tmod (wrap64 (a1)) 20) ≤ 14 then (phaetonlaw16_TrustBack.j0 k a0 l2 a3 t289 (Int.tmod (wrap64 (a1)) 20) bt290.1 bt290.2 (bt290.2 != (decide ((l2.length : Int) ≤ 6)))) else (phaetonlaw16_TrustBack.j0 k a0 l2 a3 t289 (Int.tmod (wrap64 (a1)) 20) bt290.1 bt290.2 (bt290.2 != false)))))
theorem phaetonlaw16_TrustBack.mono_l : ∀ k, (∀ y0 y1 y2 y3 y4 y5 y6 y7, LeO (phaetonlaw16_TrustBack.j0 k y0 y1 y2 y3 y4 y5 y6 y7) (phaetonlaw16_TrustBack.j0 (k + 1) y0 y1 y2 y3 y4 y5 y6 y7))
  | 0 => fun _ _ _ _ _ _ _ _ r h => by simp [phaetonlaw16_TrustBack.j0] at h
  | k + 1 => by
    have ih0 := phaetonlaw16_TrustBack.mono_l k
    · intro y0 y1 y2 y3 y4 y5 y6 y7
      unfold phaetonlaw16_TrustBack.j0
      repeat' first
      | (with_reducible exact ih0 _ _ _ _ _ _ _ _)
      | (with_reducible exact phaetonlaw16_head.mono _)
      | (with_reducible exact LeO.refl _)
      | (with_reducible exact LeO.none _)
      | (with_reducible refine LeO.ite ?_ ?_)
      | (with_reducible refine LeO.bind ?_ (fun _ => ?_))
      | exact ih0 _ _ _ _ _ _ _ _
      | exact phaetonlaw16_head.mono _
      | exact LeO.none _
      | refine LeO.ite ?_ ?_
      | refine LeO.bind ?_ (fun _ => ?_)
theorem phaetonlaw16_TrustBack.mono : ∀ a0 a1 a2 a3 k, LeO (phaetonlaw16_TrustBack.f k a0 a1 a2 a3) (phaetonlaw16_TrustBack.f (k + 1) a0 a1 a2 a3) := by
  intro a0 a1 a2 a3 k
  have ih0 := phaetonlaw16_TrustBack.mono_l k
  unfold phaetonlaw16_TrustBack.f
  repeat' first
      | (with_reducible exact ih0 _ _ _ _ _ _ _ _)
      | (with_reducible exact phaetonlaw16_head.mono _)
      | (with_reducible exact LeO.refl _)
      | (with_reducible exact LeO.none _)
      | (with_reducible refine LeO.ite ?_ ?_)
      | (with_reducible refine LeO.bind ?_ (fun _ => ?_))
      | exact ih0 _ _ _ _ _ _ _ _
      | exact phaetonlaw16_head.mono _
      | exact LeO.none _
      | refine LeO.ite ?_ ?_
      | refine LeO.bind ?_ (fun _ => ?_)
def phaetonlaw16_TrustBack.T15 : Bool × List (List Nat × List Nat) := (true, [([], []), ([], []), ([1], [1]), ([], []), ([], []), ([4], [4]), ([3, 5], [3, 5]), ([6], [6]), ([], []), ([8], [8]), ([9], [9]), ([7, 10], [7, 10]), ([0, 2, 0, 1, 2, 3, 4, 5, 6, 7, 8, 9, 10, 11], [0, 2]), ([12, 11, 0, 1, 2, 3, 4, 5, 6, 7, 8, 9, 10, 11], [11, 12])])
def phaetonlaw16_TrustBack.B15 : List Nat := [0, 0, 2, 0, 0, 16, 56, 120, 0, 256, 768, 2040, 4095, 8191]
theorem phaetonlaw16_TrustBack.tab15 : rtab .any (opsOf Try.f4 15) = phaetonlaw16_TrustBack.T15 := by kernel_rfl
theorem phaetonlaw16_TrustBack.bits15 : waitsOk phaetonlaw16_TrustBack.T15.2 phaetonlaw16_TrustBack.B15 = true := by kernel_rfl
set_option maxHeartbeats 8000000 in
set_option maxRecDepth 100000 in
theorem phaetonlaw16_TrustBack.calls (k : Nat) (a0 : Int) (a1 : Int) (A2 : Option Addr) (c2 : Nat) (l2 : List Int) (a3 : Int) (r : Bool) (w : World) (hr2 : Kd.C (Kd.int .u8) w A2 l2.length l2) (hc2 : l2.length ≤ c2) (h : phaetonlaw16_TrustBack.f k a0 a1 l2 a3 = some r) :
    Calls Try.prog 4 #[.int .u16 a0, .int .u8 a1, .slice A2 l2.length c2, .int .u8 a3] w fun e w' => e = .returned (.bool r) ∧ Below w.heap.size w w' := by
  have HR2 := Aside0.mk hr2
  have HC2 := Aside0.mk hc2
  clear hr2 hc2
  have HB := Aside0.mk (Below.refl w.heap.size w)
  have H : ((phaetonlaw16_head.f k).bind fun t289 => (if (l2.length : Int) > 100 then (if t289 = true then (some true) else (none)) else ((trust_Wrap.f (wrap64 (a0)) (Int.tmod (wrap64 (a1)) 20) l2).bind fun bt290 => (if (Int.tmod (wrap64 (a1)) 20) ≤ 14 then (phaetonlaw16_TrustBack.j0 k a0 l2 a3 t289 (Int.tmod (wrap64 (a1)) 20) bt290.1 bt290.2 (bt290.2 != (decide ((l2.length : Int) ≤ 6)))) else (phaetonlaw16_TrustBack.j0 k a0 l2 a3 t289 (Int.tmod (wrap64 (a1)) 20) bt290.1 bt290.2 (bt290.2 != false)))))) = some r := h
  clear h
  replace H := Option.bind_eq_some_iff.mp H
  obtain ⟨t289, A50, H⟩ := H
  replace H : (if (l2.length : Int) > 100 then (if t289 = true then (some true) else (none)) else ((trust_Wrap.f (wrap64 (a0)) (Int.tmod (wrap64 (a1)) 20) l2).bind fun bt290 => (if (Int.tmod (wrap64 (a1)) 20) ≤ 14 then (phaetonlaw16_TrustBack.j0 k a0 l2 a3 t289 (Int.tmod (wrap64 (a1)) 20) bt290.1 bt290.2 (bt290.2 != (decide ((l2.length : Int) ≤ 6)))) else (phaetonlaw16_TrustBack.j0 k a0 l2 a3 t289 (Int.tmod (wrap64 (a1)) 20) bt290.1 bt290.2 (bt290.2 != false))))) = some r := H
  have A5 := Aside0.mk A50
  clear A50
  by_cases c6 : (l2.length : Int) > 100
  · rw [if_pos c6] at H
    have c6b0 : decide (100 < (l2.length : Int)) = true := decide_eq_true c6
    have c6b1 : decide (100 < l2.length) = true := decide_eq_true (by omega)
    clear c6
    by_cases c7 : t289 = true
    · subst c7
      have H1 : (some true) = some r := by rw [if_pos rfl] at H; exact H
      clear H
      have H := H1
      clear H1
      obtain rfl := Option.some.inj H
      go_enter Try.func4, Try.ntmps4
      (try simp only [List.append])
      go_wp2_with (first | ((with_reducible refine gate_callee (f := 10) rfl ?_); refine goesL_ (some 21) rfl rfl Try.func10 (by kernel_rfl) rfl #[] rfl (by (try simp only [List.map_toArray, List.map_cons, List.map_nil]); first | done | rfl | (simp only [List.length_drop, List.length_take]; rfl)) ?_; (with_reducible refine (phaetonlaw16_head.calls k  true _ A5.out).mono ?_); rintro e w8 ⟨rfl, hb⟩; refine ⟨_, rfl, ?_⟩; have n0_ := Aside0.mk (below_step (by repeat (first | (with_reducible first | exact HB.out | apply below_alloc | apply pw_below_drewN | apply below_drew1) | exact HB.out)) hb); clear HB; have HB := n0_; clear n0_; (try clear hb); (try clear hb2); (try clear hk); (try clear hi)))
      go_ret
      exact ⟨by first | rfl | (simp [errW_none, errW_some] <;> rfl) | (simp [*, errW_none, errW_some] <;> rfl), by repeat (first | (with_reducible first | exact HB.out | apply below_alloc | apply pw_below_drewN | apply below_drew1) | exact HB.out)⟩
    · replace c7 := Bool.eq_false_iff.mpr c7
      subst c7
      have H1 : (none) = some r := by rw [if_neg (show ¬ (false = true) by decide)] at H; exact H
      clear H
      have H := H1
      clear H1
      exact absurd H (by simp)
  · rw [if_neg c6] at H
    have c6b0 : decide (100 < (l2.length : Int)) = false := decide_eq_false c6
    have c6b1 : decide (100 < l2.length) = false := decide_eq_false (by omega)
    clear c6
    replace H := Option.bind_eq_some_iff.mp H
    obtain ⟨⟨t290, t291⟩, A90, H⟩ := H
    replace H : (if (Int.tmod (wrap64 (a1)) 20) ≤ 14 then (phaetonlaw16_TrustBack.j0 k a0 l2 a3 t289 (Int.tmod (wrap64 (a1)) 20) t290 t291 (t291 != (decide ((l2.length : Int) ≤ 6)))) else (phaetonlaw16_TrustBack.j0 k a0 l2 a3 t289 (Int.tmod (wrap64 (a1)) 20) t290 t291 (t291 != false))) = some r := H
    have A9 := Aside0.mk A90
    clear A90
    have HC10 := Aside0.mk H
    clear H
    go_enter Try.func4, Try.ntmps4
    (try simp only [List.append])
    go_upto_region 6 with (first | ((with_reducible refine gate_callee (f := 10) rfl ?_); refine goesL_ (some 21) rfl rfl Try.func10 (by kernel_rfl) rfl #[] rfl (by (try simp only [List.map_toArray, List.map_cons, List.map_nil]); first | done | rfl | (simp only [List.length_drop, List.length_take]; rfl)) ?_; (with_reducible refine (phaetonlaw16_head.calls k  t289 _ A5.out).mono ?_); rintro e w11 ⟨rfl, hb⟩; refine ⟨_, rfl, ?_⟩; have n0_ := Aside0.mk (below_step (by repeat (first | (with_reducible first | exact HB.out | apply below_alloc | apply pw_below_drewN | apply below_drew1) | exact HB.out)) hb); clear HB; have HB := n0_; clear n0_; (try clear hb); (try clear hb2); (try clear hk); (try clear hi)) | ((with_reducible refine gate_callee (f := 11) rfl ?_); refine goesL_ (some 34) rfl rfl Try.func11 (by kernel_rfl) rfl #[.int .i64 (wrap64 (a0)), .int .i64 (Int.tmod (wrap64 (a1)) 20), .slice A2 l2.length c2] rfl (by (try simp only [List.map_toArray, List.map_cons, List.map_nil]); first | done | rfl | (simp only [List.length_drop, List.length_take]; rfl)) ?_; (with_reducible refine (trust_Wrap.calls (wrap64 (a0)) (Int.tmod (wrap64 (a1)) 20) _ _ l2 t290 t291 _ ?side1 ?side2 A9.out).mono ?_); (case side1 => repeat (first | exact (Kd.C_below HR2.out HB.out) | (with_reducible refine Kd.C_alloc ?_ _) | (with_reducible refine Kd.C_drewN ?_ _) | (with_reducible refine Kd.C_drew ?_))); (case side2 => exact HC2.out); rintro e w12 ⟨v292, rfl, ho0, hb⟩; refine ⟨_, rfl, ?_⟩; have n0_ := Aside0.mk (Kd.R_lower ho0 (below_size (by repeat (first | (with_reducible first | exact HB.out | apply below_alloc | apply pw_below_drewN | apply below_drew1) | exact HB.out)))); have n1_ := Aside0.mk (below_step (by repeat (first | (with_reducible first | exact HB.out | apply below_alloc | apply pw_below_drewN | apply below_drew1) | exact HB.out)) hb); clear HB; have HO293 := n0_; have HB := n1_; clear n0_ n1_; (try clear hb); (try clear hb2); (try clear hk); (try clear hi); (try clear ho0)))
    (try simp only [Act.put, List.setIfInBounds_toArray, List.set_cons_zero, List.set_cons_succ])
    go_cut [45] (fun v45 wc => ∃ (kq : Nat) (x45_9 : Bool), v45 = .bool x45_9 ∧ Aside0 (phaetonlaw16_TrustBack.j0 kq a0 l2 a3 t289 (Int.tmod (wrap64 (a1)) 20) t290 t291 x45_9 = some r) ∧ Aside0 (kq ≤ k) ∧ Aside0 (Kd.R (Kd.int .u8) 5 wc w.heap.size (fun _ => True) v292 t290) ∧ Aside0 (Below w.heap.size w wc))
    case first =>
      have H := HC10.out
      clear HC10
      by_cases c13 : (Int.tmod (wrap64 (a1)) 20) ≤ 14
      · rw [if_pos c13] at H
        have c13b0 : decide ((Int.tmod (wrap64 (a1)) 20) ≤ 14) = true := decide_eq_true c13
        clear c13
        (first | rw [c13b0] | (simp only [i64_w, i32_w]; rw [c13b0]) | skip)
        have H' := Aside0.mk H
        clear H
        go_wp2
        go_meet
        case rel => exact ⟨_, ((t291 != (decide ((l2.length : Int) ≤ 6)))), (by first | rfl | (simp; done) | (simp [*]; done)), H', ⟨by first | omega | exact Nat.le_refl _⟩, ⟨by (with_reducible repeat (first | apply Kd.R_alloc | apply Kd.R_drewN | apply Kd.R_drew)); exact HO293.out⟩, ⟨by repeat (first | (with_reducible first | exact HB.out | apply below_alloc | apply pw_below_drewN | apply below_drew1) | exact HB.out)⟩⟩
      · rw [if_neg c13] at H
        have c13b0 : decide ((Int.tmod (wrap64 (a1)) 20) ≤ 14) = false := decide_eq_false c13
        clear c13
        (first | rw [c13b0] | (simp only [i64_w, i32_w]; rw [c13b0]) | skip)
        have H' := Aside0.mk H
        clear H
        go_wp2
        go_meet
        case rel => exact ⟨_, ((t291 != false)), (by first | rfl | (simp; done) | (simp [*]; done)), H', ⟨by first | omega | exact Nat.le_refl _⟩, ⟨by (with_reducible repeat (first | apply Kd.R_alloc | apply Kd.R_drewN | apply Kd.R_drew)); exact HO293.out⟩, ⟨by repeat (first | (with_reducible first | exact HB.out | apply below_alloc | apply pw_below_drewN | apply below_drew1) | exact HB.out)⟩⟩
    case rest =>
      clear HC10
      try clear c1
      try clear c2
      try clear p2
      try clear c4
      try clear c6
      try clear c6b0
      try clear c6b1
      try clear p6
      try clear c7
      try clear c10
      try clear c11
      try clear c13
      try clear c13b0
      obtain ⟨kq, x45_9, rfl, HA, HJ9, HO_11, HB⟩ := hcut
      cases kq with
      | zero => exact absurd HA.out (by simp [phaetonlaw16_TrustBack.j0])
      | succ kj9 =>
        have H := HA.out
        clear HA
        simp only [phaetonlaw16_TrustBack.j0] at H
        by_cases c14 : x45_9 = true
        · subst c14
          have H1 : (none) = some r := by rw [if_pos rfl] at H; exact H
          clear H
          have H := H1
          clear H1
          exact absurd H (by simp)
        · replace c14 := Bool.eq_false_iff.mpr c14
          subst c14
          have H1 : (if t291 = true then ((trust_Open.f (wrap64 (a0)) t290).bind fun bt294 => (if bt294.2.2 = true then (if bt294.2.1 = (Int.tmod (wrap64 (a1)) 20) then ((phaetonref01_SameBytes.f bt294.1 l2).bind fun t299 => (if t299 = true then (if (t290.length : Int) = (wrap64 ((l2.length : Int) + 2)) then (if (wrap64 (8 * (t290.length : Int))) = 0 then (none) else ((some (([] : List Int) : List Int)).bind fun y300 => (if y300.length + t290.length < 140737488355328 then ((some (y300 ++ t290 : List Int)).bind fun y303 => (if 0 ≤ (wrap64 (Int.tdiv (Int.tmod (wrap64 (a3)) (wrap64 (8 * (t290.length : Int)))) 8)) then (if (wrap64 (Int.tdiv (Int.tmod (wrap64 (a3)) (wrap64 (8 * (t290.length : Int)))) 8)) < (y303.length : Int) then (if 0 ≤ (Int.tmod (Int.tmod (wrap64 (a3)) (wrap64 (8 * (t290.length : Int)))) 8) then ((trust_Open.f (wrap64 (a0)) (y303.set ((wrap64 (Int.tdiv (Int.tmod (wrap64 (a3)) (wrap64 (8 * (t290.length : Int)))) 8)) : Int).toNat (Go.bits .xor .u8 (rd y303 (wrap64 (Int.tdiv (Int.tmod (wrap64 (a3)) (wrap64 (8 * (t290.length : Int)))) 8))) (shl .u8 1 (Int.tmod (Int.tmod (wrap64 (a3)) (wrap64 (8 * (t290.length : Int)))) 8))))).bind fun bt308 => (if t289 = true then (if bt308.2.2 = true then (none) else (some true)) else (none))) else (none)) else (none)) else (none))) else (none)))) else (none)) else (none))) else (none)) else (none))) else (if t289 = true then (if (t290.length : Int) = 0 then (some true) else (none)) else (none))) = some r := by rw [if_neg (show ¬ (false = true) by decide)] at H; exact H
          clear H
          have H := H1
          clear H1
          by_cases c15 : t291 = true
          · subst c15
            have H1 : ((trust_Open.f (wrap64 (a0)) t290).bind fun bt294 => (if bt294.2.2 = true then (if bt294.2.1 = (Int.tmod (wrap64 (a1)) 20) then ((phaetonref01_SameBytes.f bt294.1 l2).bind fun t299 => (if t299 = true then (if (t290.length : Int) = (wrap64 ((l2.length : Int) + 2)) then (if (wrap64 (8 * (t290.length : Int))) = 0 then (none) else ((some (([] : List Int) : List Int)).bind fun y300 => (if y300.length + t290.length < 140737488355328 then ((some (y300 ++ t290 : List Int)).bind fun y303 => (if 0 ≤ (wrap64 (Int.tdiv (Int.tmod (wrap64 (a3)) (wrap64 (8 * (t290.length : Int)))) 8)) then (if (wrap64 (Int.tdiv (Int.tmod (wrap64 (a3)) (wrap64 (8 * (t290.length : Int)))) 8)) < (y303.length : Int) then (if 0 ≤ (Int.tmod (Int.tmod (wrap64 (a3)) (wrap64 (8 * (t290.length : Int)))) 8) then ((trust_Open.f (wrap64 (a0)) (y303.set ((wrap64 (Int.tdiv (Int.tmod (wrap64 (a3)) (wrap64 (8 * (t290.length : Int)))) 8)) : Int).toNat (Go.bits .xor .u8 (rd y303 (wrap64 (Int.tdiv (Int.tmod (wrap64 (a3)) (wrap64 (8 * (t290.length : Int)))) 8))) (shl .u8 1 (Int.tmod (Int.tmod (wrap64 (a3)) (wrap64 (8 * (t290.length : Int)))) 8))))).bind fun bt308 => (if t289 = true then (if bt308.2.2 = true then (none) else (some true)) else (none))) else (none)) else (none)) else (none))) else (none)))) else (none)) else (none))) else (none)) else (none))) = some r := by rw [if_pos rfl] at H; exact H
            clear H
            have H := H1
            clear H1
            replace H := Option.bind_eq_some_iff.mp H
            obtain ⟨⟨t294, t295, t296⟩, A160, H⟩ := H
            replace H : (if t296 = true then (if t295 = (Int.tmod (wrap64 (a1)) 20) then ((phaetonref01_SameBytes.f t294 l2).bind fun t299 => (if t299 = true then (if (t290.length : Int) = (wrap64 ((l2.length : Int) + 2)) then (if (wrap64 (8 * (t290.length : Int))) = 0 then (none) else ((some (([] : List Int) : List Int)).bind fun y300 => (if y300.length + t290.length < 140737488355328 then ((some (y300 ++ t290 : List Int)).bind fun y303 => (if 0 ≤ (wrap64 (Int.tdiv (Int.tmod (wrap64 (a3)) (wrap64 (8 * (t290.length : Int)))) 8)) then (if (wrap64 (Int.tdiv (Int.tmod (wrap64 (a3)) (wrap64 (8 * (t290.length : Int)))) 8)) < (y303.length : Int) then (if 0 ≤ (Int.tmod (Int.tmod (wrap64 (a3)) (wrap64 (8 * (t290.length : Int)))) 8) then ((trust_Open.f (wrap64 (a0)) (y303.set ((wrap64 (Int.tdiv (Int.tmod (wrap64 (a3)) (wrap64 (8 * (t290.length : Int)))) 8)) : Int).toNat (Go.bits .xor .u8 (rd y303 (wrap64 (Int.tdiv (Int.tmod (wrap64 (a3)) (wrap64 (8 * (t290.length : Int)))) 8))) (shl .u8 1 (Int.tmod (Int.tmod (wrap64 (a3)) (wrap64 (8 * (t290.length : Int)))) 8))))).bind fun bt308 => (if t289 = true then (if bt308.2.2 = true then (none) else (some true)) else (none))) else (none)) else (none)) else (none))) else (none)))) else (none)) else (none))) else (none)) else (none)) = some r := H
            have A16 := Aside0.mk A160
            clear A160
            by_cases c17 : t296 = true
            · subst c17
              have H1 : (if t295 = (Int.tmod (wrap64 (a1)) 20) then ((phaetonref01_SameBytes.f t294 l2).bind fun t299 => (if t299 = true then (if (t290.length : Int) = (wrap64 ((l2.length : Int) + 2)) then (if (wrap64 (8 * (t290.length : Int))) = 0 then (none) else ((some (([] : List Int) : List Int)).bind fun y300 => (if y300.length + t290.length < 140737488355328 then ((some (y300 ++ t290 : List Int)).bind fun y303 => (if 0 ≤ (wrap64 (Int.tdiv (Int.tmod (wrap64 (a3)) (wrap64 (8 * (t290.length : Int)))) 8)) then (if (wrap64 (Int.tdiv (Int.tmod (wrap64 (a3)) (wrap64 (8 * (t290.length : Int)))) 8)) < (y303.length : Int) then (if 0 ≤ (Int.tmod (Int.tmod (wrap64 (a3)) (wrap64 (8 * (t290.length : Int)))) 8) then ((trust_Open.f (wrap64 (a0)) (y303.set ((wrap64 (Int.tdiv (Int.tmod (wrap64 (a3)) (wrap64 (8 * (t290.length : Int)))) 8)) : Int).toNat (Go.bits .xor .u8 (rd y303 (wrap64 (Int.tdiv (Int.tmod (wrap64 (a3)) (wrap64 (8 * (t290.length : Int)))) 8))) (shl .u8 1 (Int.tmod (Int.tmod (wrap64 (a3)) (wrap64 (8 * (t290.length : Int)))) 8))))).bind fun bt308 => (if t289 = true then (if bt308.2.2 = true then (none) else (some true)) else (none))) else (none)) else (none)) else (none))) else (none)))) else (none)) else (none))) else (none)) = some r := by rw [if_pos rfl] at H; exact H
              clear H
              have H := H1
              clear H1
              by_cases c18 : t295 = (Int.tmod (wrap64 (a1)) 20)
              · rw [if_pos c18] at H
                have c18b0 : (t295 == (Int.tmod (wrap64 (a1)) 20)) = true := beq_iff_eq.mpr c18
                have c18b1 : (t295 != (Int.tmod (wrap64 (a1)) 20)) = false := bne_eq_false_iff_eq.mpr c18
                clear c18
                replace H := Option.bind_eq_some_iff.mp H
                obtain ⟨t299, A190, H⟩ := H
                replace H : (if t299 = true then (if (t290.length : Int) = (wrap64 ((l2.length : Int) + 2)) then (if (wrap64 (8 * (t290.length : Int))) = 0 then (none) else ((some (([] : List Int) : List Int)).bind fun y300 => (if y300.length + t290.length < 140737488355328 then ((some (y300 ++ t290 : List Int)).bind fun y303 => (if 0 ≤ (wrap64 (Int.tdiv (Int.tmod (wrap64 (a3)) (wrap64 (8 * (t290.length : Int)))) 8)) then (if (wrap64 (Int.tdiv (Int.tmod (wrap64 (a3)) (wrap64 (8 * (t290.length : Int)))) 8)) < (y303.length : Int) then (if 0 ≤ (Int.tmod (Int.tmod (wrap64 (a3)) (wrap64 (8 * (t290.length : Int)))) 8) then ((trust_Open.f (wrap64 (a0)) (y303.set ((wrap64 (Int.tdiv (Int.tmod (wrap64 (a3)) (wrap64 (8 * (t290.length : Int)))) 8)) : Int).toNat (Go.bits .xor .u8 (rd y303 (wrap64 (Int.tdiv (Int.tmod (wrap64 (a3)) (wrap64 (8 * (t290.length : Int)))) 8))) (shl .u8 1 (Int.tmod (Int.tmod (wrap64 (a3)) (wrap64 (8 * (t290.length : Int)))) 8))))).bind fun bt308 => (if t289 = true then (if bt308.2.2 = true then (none) else (some true)) else (none))) else (none)) else (none)) else (none))) else (none)))) else (none)) else (none)) = some r := H
                have A19 := Aside0.mk A190
                clear A190
                by_cases c20 : t299 = true
                · subst c20
                  have H1 : (if (t290.length : Int) = (wrap64 ((l2.length : Int) + 2)) then (if (wrap64 (8 * (t290.length : Int))) = 0 then (none) else ((some (([] : List Int) : List Int)).bind fun y300 => (if y300.length + t290.length < 140737488355328 then ((some (y300 ++ t290 : List Int)).bind fun y303 => (if 0 ≤ (wrap64 (Int.tdiv (Int.tmod (wrap64 (a3)) (wrap64 (8 * (t290.length : Int)))) 8)) then (if (wrap64 (Int.tdiv (Int.tmod (wrap64 (a3)) (wrap64 (8 * (t290.length : Int)))) 8)) < (y303.length : Int) then (if 0 ≤ (Int.tmod (Int.tmod (wrap64 (a3)) (wrap64 (8 * (t290.length : Int)))) 8) then ((trust_Open.f (wrap64 (a0)) (y303.set ((wrap64 (Int.tdiv (Int.tmod (wrap64 (a3)) (wrap64 (8 * (t290.length : Int)))) 8)) : Int).toNat (Go.bits .xor .u8 (rd y303 (wrap64 (Int.tdiv (Int.tmod (wrap64 (a3)) (wrap64 (8 * (t290.length : Int)))) 8))) (shl .u8 1 (Int.tmod (Int.tmod (wrap64 (a3)) (wrap64 (8 * (t290.length : Int)))) 8))))).bind fun bt308 => (if t289 = true then (if bt308.2.2 = true then (none) else (some true)) else (none))) else (none)) else (none)) else (none))) else (none)))) else (none)) = some r := by rw [if_pos rfl] at H; exact H
                  clear H
                  have H := H1
                  clear H1
                  by_cases c21 : (t290.length : Int) = (wrap64 ((l2.length : Int) + 2))
                  · rw [if_pos c21] at H
                    have c21b0 : ((t290.length : Int) == (wrap64 ((l2.length : Int) + 2))) = true := beq_iff_eq.mpr c21
                    have c21b1 : ((t290.length : Int) != (wrap64 ((l2.length : Int) + 2))) = false := bne_eq_false_iff_eq.mpr c21
                    clear c21
                    by_cases c22 : (wrap64 (8 * (t290.length : Int))) = 0
                    · rw [if_pos c22] at H
                      exact absurd H (by simp)
                    · rw [if_neg c22] at H
                      have c22b0 : ((wrap64 (8 * (t290.length : Int))) == 0) = false := beq_eq_false_iff_ne.mpr c22
                      have c22b1 : ((wrap64 (8 * (t290.length : Int))) != 0) = true := bne_iff_ne.mpr c22
                      obtain ⟨y300, hy300⟩ : ∃ y_ : List Int, y_ = (([] : List Int)) := ⟨_, rfl⟩
                      replace H : (if y300.length + t290.length < 140737488355328 then ((some (y300 ++ t290 : List Int)).bind fun y303 => (if 0 ≤ (wrap64 (Int.tdiv (Int.tmod (wrap64 (a3)) (wrap64 (8 * (t290.length : Int)))) 8)) then (if (wrap64 (Int.tdiv (Int.tmod (wrap64 (a3)) (wrap64 (8 * (t290.length : Int)))) 8)) < (y303.length : Int) then (if 0 ≤ (Int.tmod (Int.tmod (wrap64 (a3)) (wrap64 (8 * (t290.length : Int)))) 8) then ((trust_Open.f (wrap64 (a0)) (y303.set ((wrap64 (Int.tdiv (Int.tmod (wrap64 (a3)) (wrap64 (8 * (t290.length : Int)))) 8)) : Int).toNat (Go.bits .xor .u8 (rd y303 (wrap64 (Int.tdiv (Int.tmod (wrap64 (a3)) (wrap64 (8 * (t290.length : Int)))) 8))) (shl .u8 1 (Int.tmod (Int.tmod (wrap64 (a3)) (wrap64 (8 * (t290.length : Int)))) 8))))).bind fun bt308 => (if t289 = true then (if bt308.2.2 = true then (none) else (some true)) else (none))) else (none)) else (none)) else (none))) else (none)) = some r := by first | (rw [hy300]; with_reducible exact H) | (have H2_ := (Option.bind_some _ _).symm.trans H; rw [hy300]; with_reducible exact H2_) | (have H2_ := (Option.bind_some _ _).symm.trans H; with_reducible exact H2_) | with_reducible exact H | (rw [hy300]; exact H) | exact H
                      have Ny300 := Aside0.mk hy300
                      clear hy300
                      by_cases c23 : y300.length + t290.length < 140737488355328
                      · rw [if_pos c23] at H
                        have LMc23 := Aside0.mk c23
                        clear c23
                        obtain ⟨y303, hy303⟩ : ∃ y_ : List Int, y_ = (y300 ++ t290) := ⟨_, rfl⟩
                        replace H : (if 0 ≤ (wrap64 (Int.tdiv (Int.tmod (wrap64 (a3)) (wrap64 (8 * (t290.length : Int)))) 8)) then (if (wrap64 (Int.tdiv (Int.tmod (wrap64 (a3)) (wrap64 (8 * (t290.length : Int)))) 8)) < (y303.length : Int) then (if 0 ≤ (Int.tmod (Int.tmod (wrap64 (a3)) (wrap64 (8 * (t290.length : Int)))) 8) then ((trust_Open.f (wrap64 (a0)) (y303.set ((wrap64 (Int.tdiv (Int.tmod (wrap64 (a3)) (wrap64 (8 * (t290.length : Int)))) 8)) : Int).toNat (Go.bits .xor .u8 (rd y303 (wrap64 (Int.tdiv (Int.tmod (wrap64 (a3)) (wrap64 (8 * (t290.length : Int)))) 8))) (shl .u8 1 (Int.tmod (Int.tmod (wrap64 (a3)) (wrap64 (8 * (t290.length : Int)))) 8))))).bind fun bt308 => (if t289 = true then (if bt308.2.2 = true then (none) else (some true)) else (none))) else (none)) else (none)) else (none)) = some r := by first | (rw [hy303]; with_reducible exact H) | (have H2_ := (Option.bind_some _ _).symm.trans H; rw [hy303]; with_reducible exact H2_) | (have H2_ := (Option.bind_some _ _).symm.trans H; with_reducible exact H2_) | with_reducible exact H | (rw [hy303]; exact H) | exact H
                        have Ny303 := Aside0.mk hy303
                        clear hy303
                        obtain ⟨ji24, hji24⟩ : ∃ j_ : Int, (wrap64 (Int.tdiv (Int.tmod (wrap64 (a3)) (wrap64 (8 * (t290.length : Int)))) 8)) = j_ := ⟨_, rfl⟩
                        replace H : (if 0 ≤ (ji24) then (if (ji24) < (y303.length : Int) then (if 0 ≤ (Int.tmod (Int.tmod (wrap64 (a3)) (wrap64 (8 * (t290.length : Int)))) 8) then ((trust_Open.f (wrap64 (a0)) (y303.set ((ji24) : Int).toNat (Go.bits .xor .u8 (rd y303 (ji24)) (shl .u8 1 (Int.tmod (Int.tmod (wrap64 (a3)) (wrap64 (8 * (t290.length : Int)))) 8))))).bind fun bt308 => (if t289 = true then (if bt308.2.2 = true then (none) else (some true)) else (none))) else (none)) else (none)) else (none)) = some r := by first | (rw [hji24] at H; exact H) | (simp only [hji24] at H ⊢; exact H)
                        (try rw [hji24] at A16)
                        (try rw [hji24] at A19)
                        have hji24w : (IntKind.i64.wrap (Int.tdiv (Int.tmod (wrap64 (a3)) (wrap64 (8 * (t290.length : Int)))) 8)) = ji24 := (i64_w _).trans hji24
                        by_cases c25 : 0 ≤ (ji24)
                        · rw [if_pos c25] at H
                          have c25b0 : decide (0 ≤ (ji24)) = true := decide_eq_true c25
                          clear c25
                          by_cases c26 : (ji24) < (y303.length : Int)
                          · rw [if_pos c26] at H
                            have c26b0 : decide ((ji24) < (y303.length : Int)) = true := decide_eq_true c26
                            clear c26
                            obtain ⟨ji27, hji27⟩ : ∃ j_ : Int, (Int.tmod (Int.tmod (wrap64 (a3)) (wrap64 (8 * (t290.length : Int)))) 8) = j_ := ⟨_, rfl⟩
                            replace H : (if 0 ≤ (ji27) then ((trust_Open.f (wrap64 (a0)) (y303.set ((ji24) : Int).toNat (Go.bits .xor .u8 (rd y303 (ji24)) (shl .u8 1 (ji27))))).bind fun bt308 => (if t289 = true then (if bt308.2.2 = true then (none) else (some true)) else (none))) else (none)) = some r := by first | (rw [hji27] at H; exact H) | (simp only [hji27] at H ⊢; exact H)
                            (try rw [hji27] at A16)
                            (try rw [hji27] at A19)
                            by_cases c28 : 0 ≤ (ji27)
                            · rw [if_pos c28] at H
                              have c28b0 := eq_true c28
                              have c28b1 : decide (0 ≤ (ji27)) = true := decide_eq_true c28
                              have c28m : max (ji27) 0 = (ji27) := by omega
                              clear c28
                              obtain ⟨ji29, hji29⟩ : ∃ j_ : Int, (shl .u8 1 (ji27)) = j_ := ⟨_, rfl⟩
                              replace H : ((trust_Open.f (wrap64 (a0)) (y303.set ((ji24) : Int).toNat (Go.bits .xor .u8 (rd y303 (ji24)) (ji29)))).bind fun bt308 => (if t289 = true then (if bt308.2.2 = true then (none) else (some true)) else (none))) = some r := by first | (rw [hji29] at H; exact H) | (simp only [hji29] at H ⊢; exact H)
                              (try rw [hji29] at A16)
                              (try rw [hji29] at A19)
                              have hji29_ : (IntKind.u8.wrap (1 * 2 ^ min (ji27).toNat 8)) = ji29 := hji29
                              have hji29z : (ji27) ≤ 8 → (IntKind.u8.wrap (1 * 2 ^ (ji27).toNat)) = ji29 := shl_small hji29
                              have hji29u : (IntKind.u8.wrap (2 ^ min (ji27).toNat 8)) = ji29 := by have h_ := hji29_; rw [Int.one_mul] at h_; exact h_
                              have hji29v : (ji27) ≤ 8 → (IntKind.u8.wrap (2 ^ (ji27).toNat)) = ji29 := fun hle_ => by have h_ := hji29z hle_; rw [Int.one_mul] at h_; exact h_
                              obtain ⟨y307, hy307⟩ : ∃ y_ : List Int, y_ = (y303.set ((ji24) : Int).toNat (Go.bits .xor .u8 (rd y303 (ji24)) (ji29))) := ⟨_, rfl⟩
                              replace H : ((trust_Open.f (wrap64 (a0)) y307).bind fun bt308 => (if t289 = true then (if bt308.2.2 = true then (none) else (some true)) else (none))) = some r := by first | (rw [hy307]; with_reducible exact H) | (have H2_ := (Option.bind_some _ _).symm.trans H; rw [hy307]; with_reducible exact H2_) | (have H2_ := (Option.bind_some _ _).symm.trans H; with_reducible exact H2_) | with_reducible exact H | (rw [hy307]; exact H) | exact H
                              have Ny307 := Aside0.mk hy307
                              clear hy307
                              replace H := Option.bind_eq_some_iff.mp H
                              obtain ⟨⟨t308, t309, t310⟩, A310, H⟩ := H
                              replace H : (if t289 = true then (if t310 = true then (none) else (some true)) else (none)) = some r := H
                              have A31 := Aside0.mk A310
                              clear A310
                              by_cases c32 : t289 = true
                              · subst c32
                                have H1 : (if t310 = true then (none) else (some true)) = some r := by rw [if_pos rfl] at H; exact H
                                clear H
                                have H := H1
                                clear H1
                                by_cases c33 : t310 = true
                                · subst c33
                                  have H1 : (none) = some r := by rw [if_pos rfl] at H; exact H
                                  clear H
                                  have H := H1
                                  clear H1
                                  exact absurd H (by simp)
                                · replace c33 := Bool.eq_false_iff.mpr c33
                                  subst c33
                                  have H1 : (some true) = some r := by rw [if_neg (show ¬ (false = true) by decide)] at H; exact H
                                  clear H
                                  have H := H1
                                  clear H1
                                  obtain rfl := Option.some.inj H
                                  obtain ⟨Ao34, co34, eo34⟩ := Kd.R_slice HO_11.out
                                  subst eo34
                                  try go_wp2_with (first | ((with_reducible refine gate_callee (f := 13) rfl ?_); refine goesL_ (some 58) rfl rfl Try.func13 (by kernel_rfl) rfl #[.int .i64 (wrap64 (a0)), .slice Ao34 t290.length co34] rfl (by (try simp only [List.map_toArray, List.map_cons, List.map_nil]); first | done | rfl | (simp only [List.length_drop, List.length_take]; rfl)) ?_; (with_reducible refine (trust_Open.calls (wrap64 (a0)) _ _ t290 t294 t295 true _ ?side1 ?side2 A16.out).mono ?_); (case side1 => repeat (first | exact (Kd.R_reads' HO_11.out).2.2 | (with_reducible refine Kd.C_alloc ?_ _) | (with_reducible refine Kd.C_drewN ?_ _) | (with_reducible refine Kd.C_drew ?_))); (case side2 => exact (Kd.R_reads' HO_11.out).2.1); rintro e w35 ⟨v297, rfl, ho0, hb⟩; refine ⟨_, rfl, ?_⟩; have n0_ := Aside0.mk (Kd.R_elder' (by (with_reducible repeat (first | apply Kd.R_alloc | apply Kd.R_drewN | apply Kd.R_drew)); exact HO_11.out) (Kd.R_base ho0) hb); have n1_ := Aside0.mk (Kd.R_lower (Kd.R_new' ho0 (Kd.R_lt (by (with_reducible repeat (first | apply Kd.R_alloc | apply Kd.R_drewN | apply Kd.R_drew)); exact HO_11.out))) (below_size (by repeat (first | (with_reducible first | exact HB.out | apply below_alloc | apply pw_below_drewN | apply below_drew1) | exact HB.out)))); have n2_ := Aside0.mk (below_step (by repeat (first | (with_reducible first | exact HB.out | apply below_alloc | apply pw_below_drewN | apply below_drew1) | exact HB.out)) hb); clear HO_11; clear HB; have HO_11 := n0_; have HO298 := n1_; have HB := n2_; clear n0_ n1_ n2_; (try clear hb); (try clear hb2); (try clear hk); (try clear hi); (try clear ho0); obtain ⟨Ao36, co36, eo36⟩ := Kd.R_slice HO298.out; subst eo36) | (go_at_call 15; (with_reducible refine (phaetonref01_SameBytes.calls _ _ t294 _ _ l2 true _ ?side1 ?side2 ?side3 ?side4 A19.out).mono ?_); (case side1 => repeat (first | exact (Kd.R_reads' HO298.out).2.2 | (with_reducible refine Kd.C_alloc ?_ _) | (with_reducible refine Kd.C_drewN ?_ _) | (with_reducible refine Kd.C_drew ?_))); (case side2 => exact (Kd.R_reads' HO298.out).2.1); (case side3 => repeat (first | exact (Kd.C_below HR2.out HB.out) | (with_reducible refine Kd.C_alloc ?_ _) | (with_reducible refine Kd.C_drewN ?_ _) | (with_reducible refine Kd.C_drew ?_))); (case side4 => exact HC2.out); rintro e w' ⟨rfl, ⟨nd, rfl⟩⟩; (try (rw [drewN_self w35]; generalize hq_ : World.drewN w35 _ = w35; have n0_ : Aside0 (Kd.R (Kd.int .u8) 5 w35 w.heap.size (fun k_ => some k_ ≠ (.slice Ao34 t290.length co34 : Value).ownBlock) (.slice Ao36 t294.length co36) t294) := ⟨by rw [← hq_]; exact (by (with_reducible repeat (first | apply Kd.R_alloc | apply Kd.R_drewN | apply Kd.R_drew)); exact Kd.R_mono HO298.out (fun _ hk => hk.2))⟩; have n1_ : Aside0 (Kd.R (Kd.int .u8) 5 w35 w.heap.size (fun k_ => some k_ ≠ (.slice Ao36 t294.length co36 : Value).ownBlock) (.slice Ao34 t290.length co34) t290) := ⟨by rw [← hq_]; exact (by (with_reducible repeat (first | apply Kd.R_alloc | apply Kd.R_drewN | apply Kd.R_drew)); exact Kd.R_mono HO_11.out (fun _ hk => hk.2))⟩; have n2_ : Aside0 (Below w.heap.size w w35) := ⟨by rw [← hq_]; exact (by repeat (first | (with_reducible first | exact HB.out | apply below_alloc | apply pw_below_drewN | apply below_drew1) | exact HB.out))⟩; clear HO298 HO_11 HB hq_; have HO298 := n0_; have HO_11 := n1_; have HB := n2_; clear n0_ n1_ n2_))) | ((with_reducible refine gate_dst (N := 89) rfl ?_); (try (refine gate_guard (by rfl) ?_; dsimp only)); refine Kd.R_lit (Kd.int .u8) _ 5 ?hg (N := 89) ?hd (xs := ([] : List Int)) (inner := []) (ok := fun _ => True) (okp := fun _ => True) ?hr ?hp (fun _ hk => hk) trivial (Below.refl _ _) (Nat.le_refl _) (by simp) ?_; (case hd => rfl); (case hg => rfl); (case hr => first | (go_simp; done) | (go_simp; rfl)); (case hp => exact (Reps.none _ _)); intro v301 w37 ho38 hb hg_ hnew_; clear hg_ hnew_; (first | rw [← Ny300.out] at ho38 | (simp only [Int.reduceToNat] at ho38; rw [← Ny300.out] at ho38)); have n0_ := Aside0.mk (Kd.R_elder' (by (with_reducible repeat (first | apply Kd.R_alloc | apply Kd.R_drewN | apply Kd.R_drew)); exact HO_11.out) (Kd.R_base ho38) hb); have n1_ := Aside0.mk (Kd.R_elder' (by (with_reducible repeat (first | apply Kd.R_alloc | apply Kd.R_drewN | apply Kd.R_drew)); exact HO298.out) (Kd.R_base ho38) hb); have n2_ := Aside0.mk (Kd.R_lower (Kd.R_new' (Kd.R_new' ho38 (Kd.R_lt (by (with_reducible repeat (first | apply Kd.R_alloc | apply Kd.R_drewN | apply Kd.R_drew)); exact HO_11.out))) (Kd.R_lt (by (with_reducible repeat (first | apply Kd.R_alloc | apply Kd.R_drewN | apply Kd.R_drew)); exact HO298.out))) (below_size (by repeat (first | (with_reducible first | exact HB.out | apply below_alloc | apply pw_below_drewN | apply below_drew1) | exact HB.out)))); have n3_ := Aside0.mk (below_step (by repeat (first | (with_reducible first | exact HB.out | apply below_alloc | apply pw_below_drewN | apply below_drew1) | exact HB.out)) hb); clear HO_11; clear HO298; clear HB; have HO_11 := n0_; have HO298 := n1_; have HO302 := n2_; have HB := n3_; clear n0_ n1_ n2_ n3_; clear hb ho38) | ((with_reducible refine gate_builtin (b := .append) (xs := #[.tmp 89, .tmp 90]) rfl ?_); (try (refine gate_guard (by rfl) ?_; dsimp only)); at_builtin; refine Kd.R_append_rows (Kd.int .u8) (w0 := w) w.heap.size rfl (.tmp 89) (.tmp 90) 22 5 (.int .u8 0) 1 rfl Try.underlying22 info5 rfl (by decide) (by omega) v301 y300 t290 _ _ _ (fun k_ => some k_ ≠ (.slice Ao34 t290.length co34 : Value).ownBlock ∧ some k_ ≠ (.slice Ao36 t294.length co36 : Value).ownBlock) (fun _ => False) rfl rfl ?aO ?aR (fun _ _ h => h) (fun _ h => h.elim) ?aF ?aB ?aS ?aL ?_; (case aR => repeat (first | exact (Kd.R_reads' HO_11.out).2.2 | (with_reducible refine Kd.C_alloc ?_ _) | (with_reducible refine Kd.C_drewN ?_ _) | (with_reducible refine Kd.C_drew ?_))); (case aB => exact (by repeat (first | (with_reducible first | exact HB.out | apply below_alloc | apply pw_below_drewN | apply below_drew1) | exact HB.out))); (case aF => exact (fun k_ hk => ⟨Kd.fresh' (Kd.R_lt (by (with_reducible repeat (first | apply Kd.R_alloc | apply Kd.R_drewN | apply Kd.R_drew)); exact HO_11.out)) k_ hk, Kd.fresh' (Kd.R_lt (by (with_reducible repeat (first | apply Kd.R_alloc | apply Kd.R_drewN | apply Kd.R_drew)); exact HO298.out)) k_ hk⟩)); (case aO => exact (by (with_reducible repeat (first | apply Kd.R_alloc | apply Kd.R_drewN | apply Kd.R_drew)); exact Kd.R_mono HO302.out (fun k_ hk => by first | exact ⟨hk.1.2, hk.2⟩ | (refine ⟨?_, ?_⟩ <;> first | exact hk.1 | exact hk.2 | exact hk.1.2 | exact hk.2.2 | exact hk.1.1 | exact hk.2.1)))); (case aS => exact (below_size (by repeat (first | (with_reducible first | exact HB.out | apply below_alloc | apply pw_below_drewN | apply below_drew1) | exact HB.out)))); (case aL => have := LMc23.out; omega); intro v304 w39 ho hb hg hat; rw [← Ny303.out] at ho; have n0_ := Aside0.mk (Kd.R_after (ok := (fun k_ => some k_ ≠ (.slice Ao36 t294.length co36 : Value).ownBlock)) (by (with_reducible repeat (first | apply Kd.R_alloc | apply Kd.R_drewN | apply Kd.R_drew)); exact Kd.R_mono HO_11.out (fun k_ hk => by first | exact ⟨hk.1.2, hk.2⟩ | (refine ⟨?_, ?_⟩ <;> first | exact hk.1 | exact hk.2 | exact hk.1.2 | exact hk.2.2 | exact hk.1.1 | exact hk.2.1))) hg hat); have n1_ := Aside0.mk (Kd.R_after (ok := (fun k_ => some k_ ≠ (.slice Ao34 t290.length co34 : Value).ownBlock)) (by (with_reducible repeat (first | apply Kd.R_alloc | apply Kd.R_drewN | apply Kd.R_drew)); exact Kd.R_mono HO298.out (fun k_ hk => by first | exact ⟨hk.1.2, hk.2⟩ | (refine ⟨?_, ?_⟩ <;> first | exact hk.1 | exact hk.2 | exact hk.1.2 | exact hk.2.2 | exact hk.1.1 | exact hk.2.1))) hg hat); have n2_ := Aside0.mk (hb); have n3_ := Aside0.mk (ho); clear HO_11; clear HO298; clear HB; clear HO302; have HO_11 := n0_; have HO298 := n1_; have HB := n2_; have HO305 := n3_; clear n0_ n1_ n2_ n3_; clear ho hb hg hat))
                                  have n0_ := Aside0.mk (Kd.R_drew HO_11.out)
                                  have n1_ := Aside0.mk (Kd.R_drew HO298.out)
                                  have n2_ := Aside0.mk (Kd.R_drew HO305.out)
                                  have n3_ := Aside0.mk (below_drew1 HB.out)
                                  clear HO_11
                                  clear HO298
                                  clear HO305
                                  clear HB
                                  have HO_11 := n0_
                                  have HO298 := n1_
                                  have HO305 := n2_
                                  have HB := n3_
                                  clear n0_ n1_ n2_ n3_
                                  obtain ⟨Ao41, co41, eo41⟩ := Kd.R_slice HO305.out
                                  (first | subst eo41 | (injection eo41 with f1_ f2_ f3_; have f4_ := f1_.symm; have f5_ := f3_.symm; clear f1_ f2_ f3_; subst f4_; subst f5_))
                                  have p306 : 0 ≤ ((ji24) : Int) := of_decide_eq_true (by first | (with_reducible assumption) | assumption)
                                  have q306 : (ji24) < (y303.length : Int) := of_decide_eq_true (by first | (with_reducible assumption) | assumption)
                                  obtain ⟨ad306, e306, hx306_0⟩ := Kd.at_int (Kd.R_reads' HO305.out).2.2 (ji24) p306 q306
                                  cases e306
                                  replace p306 := eq_true p306
                                  replace q306 := eq_true q306
                                  have p30 : 0 ≤ ((ji24) : Int) := of_decide_eq_true (by first | (with_reducible assumption) | assumption)
                                  have q30 : ((ji24) : Int) < ((y303.length : Int) : Int) := of_decide_eq_true (by first | (with_reducible assumption) | assumption)
                                  obtain ⟨go30, co30, eo30, gb30, gl30, cl30, HG30⟩ := Kd.R_form HO305.out (by omega)
                                  (first | cases eo30 | (injection eo30 with ea_ en_ ec_; (first | subst ea_ | (injection ea_ with ea_; subst ea_)); subst ec_; clear en_))
                                  have GB30 := Aside0.mk gb30
                                  have GG30 := Aside0.mk HG30
                                  clear gb30 gl30 HG30
                                  (first | simp only [add_plain] at hx306_0 | skip)
                                  obtain ⟨hx30_0, hf30_0⟩ := Kd.R_celln 0 HO305.out ((ji24) : Int) p30 q30
                                  replace p30 := eq_true p30
                                  replace q30 := eq_true q30
                                  have HP42 := Kd.R_putn HO305.out ((ji24) : Int) (Go.bits .xor .u8 (rd y303 (ji24)) (ji29))
                                  rw [← Ny307.out] at HP42
                                  have HQ42 := Aside0.mk HP42
                                  clear HP42
                                  refine start_ (n := 14) (S := fun w' => w'.cell? ⟨go30, ((ji24)).toNat, none⟩ = some (.int .u8 (rd y303 (ji24)))) (ds := [13]) #[false, false, false, false, false, false, false, false, false, false, false, false, false, false] (by kernel_rfl) rfl rfl (hx306_0) (fun hHeld => ?_); refine with_tabW phaetonlaw16_TrustBack.tab15 phaetonlaw16_TrustBack.bits15 (fun HT_ HW_ => ?_)
                                  generalize w39.drew = w40 at HO_11 HO298 HO305 HB GG30 HQ42 hf30_0 hx306_0 hx30_0 hHeld ⊢
                                  refine pure_ (i := 0) (N := some 92) (v := ?_) (a' := ?_) #[true, false, false, false, false, false, false, false, false, false, false, false, false, false] rfl rfl (any_of HT_.out (by kernel_rfl)) (fun _ _ _ h => h) (Or.inl ⟨by rfl, ?_⟩) ?_ ?_
                                  rotate_left
                                  · intro w'
                                    go_simp
                                    with_reducible rfl
                                  rotate_left
                                  · simp only [Act.put, List.setIfInBounds_toArray, List.set_cons_zero, List.set_cons_succ, i64_w, i32_w]
                                    rfl
                                  refine pure_ (i := 1) (N := some 93) (v := ?_) (a' := ?_) #[true, true, false, false, false, false, false, false, false, false, false, false, false, false] rfl rfl (any_of HT_.out (by kernel_rfl)) (fun _ _ _ h => h) (Or.inl ⟨by rfl, ?_⟩) ?_ ?_
                                  rotate_left
                                  · intro w'
                                    go_simp
                                    with_reducible rfl
                                  rotate_left
                                  · simp only [Act.put, List.setIfInBounds_toArray, List.set_cons_zero, List.set_cons_succ, i64_w, i32_w]
                                    rfl
                                  refine pure_ (i := 2) (N := some 94) (v := ?_) (a' := ?_) #[true, true, true, false, false, false, false, false, false, false, false, false, false, false] rfl rfl (any_of HT_.out (by kernel_rfl)) (fun _ _ _ h => h) (Or.inl ⟨by rfl, ?_⟩) ?_ ?_
                                  rotate_left
                                  · intro w'
                                    go_simp
                                    with_reducible rfl
                                  rotate_left
                                  · simp only [Act.put, List.setIfInBounds_toArray, List.set_cons_zero, List.set_cons_succ, i64_w, i32_w]
                                    rfl
                                  refine pure_ (i := 3) (N := some 95) (v := ?_) (a' := ?_) #[true, true, true, true, false, false, false, false, false, false, false, false, false, false] rfl rfl (any_of HT_.out (by kernel_rfl)) (fun _ _ _ h => h) (Or.inl ⟨by rfl, ?_⟩) ?_ ?_
                                  rotate_left
                                  · intro w'
                                    go_simp
                                    with_reducible rfl
                                  rotate_left
                                  · simp only [Act.put, List.setIfInBounds_toArray, List.set_cons_zero, List.set_cons_succ, i64_w, i32_w]
                                    rfl
                                  refine pure_ (i := 4) (N := some 96) (v := ?_) (a' := ?_) #[true, true, true, true, true, false, false, false, false, false, false, false, false, false] rfl rfl (any_of HT_.out (by kernel_rfl)) (fun _ _ _ h => h) (Or.inl ⟨by rfl, ?_⟩) ?_ ?_
                                  rotate_left
                                  · intro w'
                                    go_simp
                                    with_reducible rfl
                                  rotate_left
                                  · simp only [Act.put, List.setIfInBounds_toArray, List.set_cons_zero, List.set_cons_succ, i64_w, i32_w]
                                    rfl
                                  refine pure_ (i := 5) (N := some 97) (v := ?_) (a' := ?_) #[true, true, true, true, true, true, false, false, false, false, false, false, false, false] rfl rfl (any_of HT_.out (by kernel_rfl)) (fun _ _ _ h => h) (Or.inl ⟨by rfl, ?_⟩) ?_ ?_
                                  rotate_left
                                  · intro w'
                                    go_simp
                                    with_reducible rfl
                                  rotate_left
                                  · simp only [Act.put, List.setIfInBounds_toArray, List.set_cons_zero, List.set_cons_succ, i64_w, i32_w]
                                    rfl
                                  refine pure_ (i := 6) (N := some 98) (v := ?_) (a' := ?_) #[true, true, true, true, true, true, true, false, false, false, false, false, false, false] rfl rfl (any_of HT_.out (by kernel_rfl)) (fun _ _ _ h => h) (Or.inl ⟨by rfl, ?_⟩) ?_ ?_
                                  rotate_left
                                  · intro w'
                                    go_simp
                                    with_reducible rfl
                                  rotate_left
                                  · simp only [Act.put, List.setIfInBounds_toArray, List.set_cons_zero, List.set_cons_succ, i64_w, i32_w]
                                    rfl
                                  refine pure_ (i := 8) (N := some 100) (v := ?_) (a' := ?_) #[true, true, true, true, true, true, true, false, true, false, false, false, false, false] rfl rfl (any_of HT_.out (by kernel_rfl)) (fun _ _ _ h => h) (Or.inl ⟨by rfl, ?_⟩) ?_ ?_
                                  rotate_left
                                  · intro w'
                                    go_simp
                                    with_reducible rfl
                                  rotate_left
                                  · simp only [Act.put, List.setIfInBounds_toArray, List.set_cons_zero, List.set_cons_succ, i64_w, i32_w]
                                    rfl
                                  refine pure_ (i := 9) (N := some 101) (v := ?_) (a' := ?_) #[true, true, true, true, true, true, true, false, true, true, false, false, false, false] rfl rfl (any_of HT_.out (by kernel_rfl)) (fun _ _ _ h => h) (Or.inl ⟨by rfl, ?_⟩) ?_ ?_
                                  rotate_left
                                  · intro w'
                                    go_simp
                                    with_reducible rfl
                                  rotate_left
                                  · simp only [Act.put, List.setIfInBounds_toArray, List.set_cons_zero, List.set_cons_succ, i64_w, i32_w]
                                    rfl
                                  refine pure_ (i := 10) (N := some 102) (v := ?_) (a' := ?_) #[true, true, true, true, true, true, true, false, true, true, true, false, false, false] rfl rfl (any_of HT_.out (by kernel_rfl)) (fun _ _ _ h => h) (Or.inl ⟨by rfl, ?_⟩) ?_ ?_
                                  rotate_left
                                  · intro w'
                                    go_simp
                                    with_reducible rfl
                                  rotate_left
                                  · simp only [Act.put, List.setIfInBounds_toArray, List.set_cons_zero, List.set_cons_succ, i64_w, i32_w]
                                    rfl
                                  refine take_ (i := 7) (N := some 99) (v := ?_) (a' := ?_) #[true, true, true, true, true, true, true, true, true, true, true, false, false, false] rfl rfl (take_ofW HT_.out HW_.out (by kernel_rfl)) (fun _ _ _ h => h) (Or.inl ⟨by rfl, ?_⟩) hHeld ?_ ?_
                                  rotate_left
                                  · intro w' s0
                                    go_simp
                                    with_reducible rfl
                                  rotate_left
                                  · simp only [Act.put, List.setIfInBounds_toArray, List.set_cons_zero, List.set_cons_succ, i64_w, i32_w]
                                    rfl
                                  refine pure_ (i := 11) (N := some 103) (v := ?_) (a' := ?_) #[true, true, true, true, true, true, true, true, true, true, true, true, false, false] rfl rfl (any_of HT_.out (by kernel_rfl)) (fun _ _ _ h => h) (Or.inl ⟨by rfl, ?_⟩) ?_ ?_
                                  rotate_left
                                  · intro w'
                                    go_simp
                                    with_reducible rfl
                                  rotate_left
                                  · simp only [Act.put, List.setIfInBounds_toArray, List.set_cons_zero, List.set_cons_succ, i64_w, i32_w]
                                    rfl
                                  refine pure_ (i := 12) (N := some 104) (v := ?_) (a' := ?_) #[true, true, true, true, true, true, true, true, true, true, true, true, true, false] rfl rfl (any_of HT_.out (by kernel_rfl)) (fun _ _ _ h => h) (Or.inl ⟨by rfl, ?_⟩) ?_ ?_
                                  rotate_left
                                  · intro w'
                                    go_simp
                                    with_reducible rfl
                                  rotate_left
                                  · simp only [Act.put, List.setIfInBounds_toArray, List.set_cons_zero, List.set_cons_succ, i64_w, i32_w]
                                    rfl
                                  refine last_ (i := 13) (N := none) #[true, true, true, true, true, true, true, true, true, true, true, true, true, true] rfl rfl (one_of HT_.out (by kernel_rfl)) (by decide) (fun K hK => ?_)
                                  refine skip_ (w1 := ?_) (by rfl) rfl ?_ ?_
                                  rotate_left
                                  · go_simp
                                    rfl
                                  refine hK.out _ _ ?_
                                  clear hK K
                                  refine done_ (done_of HT_.out (by kernel_rfl)) ?_
                                  try go_wp2_with (first | ((with_reducible refine gate_callee (f := 13) rfl ?_); refine goesL_ (some 109) rfl rfl Try.func13 (by kernel_rfl) rfl #[.int .i64 (wrap64 (a0)), .slice (some ⟨go30, 0, none⟩) y307.length co41] rfl (by (try simp only [List.map_toArray, List.map_cons, List.map_nil]); first | done | (rw [show y307.length = y303.length from (Kd.R_reads' HQ42.out).1.symm] <;> rfl) | rfl | (simp only [List.length_drop, List.length_take]; rfl)) ?_; (with_reducible refine (trust_Open.calls (wrap64 (a0)) _ _ y307 t308 t309 false _ ?side1 ?side2 A31.out).mono ?_); (case side1 => refine (Kd.R_reads' (e := 5) (base := w.heap.size) (ok := fun k_ => (some k_ ≠ (.slice Ao34 t290.length co34 : Value).ownBlock ∧ some k_ ≠ (.slice Ao36 t294.length co36 : Value).ownBlock)) (n := y303.length) (c := co41) ?_).2.2; exact (by (with_reducible repeat (first | apply Kd.R_alloc | apply Kd.R_drewN | apply Kd.R_drew)); exact HQ42.out)); (case side2 => rw [show y307.length = y303.length from (Kd.R_reads' HQ42.out).1.symm]; exact (Kd.R_reads' HO305.out).2.1); rintro e w43 ⟨v311, rfl, ho0, hb⟩; refine ⟨_, rfl, ?_⟩; have n0_ := Aside0.mk (Kd.R_elder' (by (with_reducible repeat (first | apply Kd.R_alloc | apply Kd.R_drewN | apply Kd.R_drew)); exact (Kd.R_mono (Kd.R_far (p := ⟨go30, ((ji24) : Int).toNat, none⟩) (Kd.R_mono HO_11.out (fun k_ hk => (⟨hk, fun e_ => hk.2 (by rw [e_]; rfl)⟩ : _ ∧ k_ ≠ go30))) (fun _ hk => hk.2) (.int .u8 (Go.bits .xor .u8 (rd y303 (ji24)) (ji29)))) (fun _ h_ => h_.1))) (Kd.R_base ho0) hb); have n1_ := Aside0.mk (Kd.R_elder' (by (with_reducible repeat (first | apply Kd.R_alloc | apply Kd.R_drewN | apply Kd.R_drew)); exact (Kd.R_mono (Kd.R_far (p := ⟨go30, ((ji24) : Int).toNat, none⟩) (Kd.R_mono HO298.out (fun k_ hk => (⟨hk, fun e_ => hk.2 (by rw [e_]; rfl)⟩ : _ ∧ k_ ≠ go30))) (fun _ hk => hk.2) (.int .u8 (Go.bits .xor .u8 (rd y303 (ji24)) (ji29)))) (fun _ h_ => h_.1))) (Kd.R_base ho0) hb); have n2_ := Aside0.mk (Kd.R_elder' (by (with_reducible repeat (first | apply Kd.R_alloc | apply Kd.R_drewN | apply Kd.R_drew)); exact HQ42.out) (Kd.R_base ho0) hb); have n3_ := Aside0.mk (Kd.R_lower (Kd.R_new' (Kd.R_new' (Kd.R_new' ho0 (Kd.R_lt (by (with_reducible repeat (first | apply Kd.R_alloc | apply Kd.R_drewN | apply Kd.R_drew)); exact (Kd.R_mono (Kd.R_far (p := ⟨go30, ((ji24) : Int).toNat, none⟩) (Kd.R_mono HO_11.out (fun k_ hk => (⟨hk, fun e_ => hk.2 (by rw [e_]; rfl)⟩ : _ ∧ k_ ≠ go30))) (fun _ hk => hk.2) (.int .u8 (Go.bits .xor .u8 (rd y303 (ji24)) (ji29)))) (fun _ h_ => h_.1))))) (Kd.R_lt (by (with_reducible repeat (first | apply Kd.R_alloc | apply Kd.R_drewN | apply Kd.R_drew)); exact (Kd.R_mono (Kd.R_far (p := ⟨go30, ((ji24) : Int).toNat, none⟩) (Kd.R_mono HO298.out (fun k_ hk => (⟨hk, fun e_ => hk.2 (by rw [e_]; rfl)⟩ : _ ∧ k_ ≠ go30))) (fun _ hk => hk.2) (.int .u8 (Go.bits .xor .u8 (rd y303 (ji24)) (ji29)))) (fun _ h_ => h_.1))))) (Kd.R_lt (by (with_reducible repeat (first | apply Kd.R_alloc | apply Kd.R_drewN | apply Kd.R_drew)); exact HQ42.out))) (below_size (by repeat (first | (with_reducible first | exact HB.out | apply below_alloc | apply pw_below_drewN | apply below_drew1 | refine below_set ?_ GB30.out) | exact HB.out)))); have n4_ := Aside0.mk (below_step (by repeat (first | (with_reducible first | exact HB.out | apply below_alloc | apply pw_below_drewN | apply below_drew1 | refine below_set ?_ GB30.out) | exact HB.out)) hb); clear HO_11; clear HO298; clear HO305; clear HB; have HO_11 := n0_; have HO298 := n1_; have HO305 := n2_; have HO312 := n3_; have HB := n4_; clear n0_ n1_ n2_ n3_ n4_; (try clear hb); (try clear hb2); (try clear hk); (try clear hi); (try clear ho0)))
                                  go_ret
                                  exact ⟨by first | rfl | (simp [errW_none, errW_some] <;> rfl) | (simp only [← hji24, ← hji27, ← hji29]; first | rfl | (simp [errW_none, errW_some] <;> rfl)) | (simp [*, errW_none, errW_some] <;> rfl), by repeat (first | (with_reducible first | exact HB.out | apply below_alloc | apply pw_below_drewN | apply below_drew1) | exact HB.out)⟩
                              · replace c32 := Bool.eq_false_iff.mpr c32
                                subst c32
                                have H1 : (none) = some r := by rw [if_neg (show ¬ (false = true) by decide)] at H; exact H
                                clear H
                                have H := H1
                                clear H1
                                exact absurd H (by simp)
                            · rw [if_neg c28] at H
                              exact absurd H (by simp)
                          · rw [if_neg c26] at H
                            exact absurd H (by simp)
                        · rw [if_neg c25] at H
                          exact absurd H (by simp)
                      · rw [if_neg c23] at H
                        exact absurd H (by simp)
                  · rw [if_neg c21] at H
                    exact absurd H (by simp)
                · replace c20 := Bool.eq_false_iff.mpr c20
                  subst c20
                  have H1 : (none) = some r := by rw [if_neg (show ¬ (false = true) by decide)] at H; exact H
                  clear H
                  have H := H1
                  clear H1
                  exact absurd H (by simp)
              · rw [if_neg c18] at H
                exact absurd H (by simp)
            · replace c17 := Bool.eq_false_iff.mpr c17
              subst c17
              have H1 : (none) = some r := by rw [if_neg (show ¬ (false = true) by decide)] at H; exact H
              clear H
              have H := H1
              clear H1
              exact absurd H (by simp)
          · replace c15 := Bool.eq_false_iff.mpr c15
            subst c15
            have H1 : (if t289 = true then (if (t290.length : Int) = 0 then (some true) else (none)) else (none)) = some r := by rw [if_neg (show ¬ (false = true) by decide)] at H; exact H
            clear H
            have H := H1
            clear H1
            by_cases c44 : t289 = true
            · subst c44
              have H1 : (if (t290.length : Int) = 0 then (some true) else (none)) = some r := by rw [if_pos rfl] at H; exact H
              clear H
              have H := H1
              clear H1
              by_cases c45 : (t290.length : Int) = 0
              · rw [if_pos c45] at H
                have c45b0 : ((t290.length : Int) == 0) = true := beq_iff_eq.mpr c45
                have c45b1 : ((t290.length : Int) != 0) = false := bne_eq_false_iff_eq.mpr c45
                clear c45
                obtain rfl := Option.some.inj H
                obtain ⟨Ao46, co46, eo46⟩ := Kd.R_slice HO_11.out
                subst eo46
                go_wp2
                go_ret
                exact ⟨by first | rfl | (simp [errW_none, errW_some] <;> rfl) | (simp [*, errW_none, errW_some] <;> rfl), by repeat (first | (with_reducible first | exact HB.out | apply below_alloc | apply pw_below_drewN | apply below_drew1) | exact HB.out)⟩
              · rw [if_neg c45] at H
                exact absurd H (by simp)
            · replace c44 := Bool.eq_false_iff.mpr c44
              subst c44
              have H1 : (none) = some r := by rw [if_neg (show ¬ (false = true) by decide)] at H; exact H
              clear H
              have H := H1
              clear H1
              exact absurd H (by simp)

/-- THE ONE PURE STATEMENT of phaetonlaw16_TrustBack: yours. -/
def phaetonlaw16_TrustBack.Pure : Prop := ∀ (a0 : Int) (a1 : Int) (l2 : List Int) (a3 : Int), (Lit.int .u16 a0).wf = true → (Lit.int .u8 a1).wf = true → l2.length ≤ maxLen → l2.length * 1 ≤ 140737488351232 → (∀ x ∈ l2, (Lit.int .u8 x).wf = true) → (Lit.int .u8 a3).wf = true → ∃ k, phaetonlaw16_TrustBack.f k a0 a1 l2 a3 = some true
theorem phaetonlaw16_TrustBack.walk (P : phaetonlaw16_TrustBack.Pure) (a0 : Int) (a1 : Int) (a2 : Option Addr) (len2 cap2 : Nat) (z2 : List Int) (a3 : Int) (w : World) (w0 : (Lit.int .u16 a0).wf = true) (w1 : (Lit.int .u8 a1).wf = true) (w2 : (a2 = none ∧ len2 = 0 ∧ cap2 = 0 ∧ z2 = []) ∨ ∃ x, a2 = some x ∧ len2 ≤ cap2 ∧ cap2 ≤ maxLen ∧ z2.length = cap2 ∧ (∀ i, i < z2.length → w.cell? (x.add i) = some (.int .u8 (z2.getD i 0))) ∧ ∀ n ∈ z2, (Lit.int .u8 n).wf = true) (y2 : len2 * 1 ≤ 140737488351232) (w3 : (Lit.int .u8 a3).wf = true) :
    Calls Try.prog 4 #[.int .u16 a0, .int .u8 a1, .slice a2 len2 cap2, .int .u8 a3] w fun e w' => e = .returned (.bool true) ∧ Below w.heap.size w w' := by
  obtain ⟨l2, rfl, hr2, hm2, hw2, hc2⟩ := ReadsInt.ofRowC w2
  obtain ⟨k, h⟩ := P a0 a1 l2 a3 w0 w1 hm2 y2 hw2 w3
  refine (phaetonlaw16_TrustBack.calls k a0 a1 _ _ l2 a3 true w (Kd.C_of_reads (d := (0 : Int)) (h1 := fun _ => rfl) hr2) hc2 h).mono ?_
  rintro e w' ⟨rfl, hd⟩
  exact ⟨rfl, hd⟩

/-! ### phaetonlaw16_TrustOpen: function 5 -/
def phaetonlaw16_TrustOpen.f (k : Nat) (a0 : Int) (l1 : List Int) : Option (Bool) := (phaetonlaw16_head.f k).bind fun t313 => (if (l1.length : Int) > 100 then (if t313 = true then (some true) else (none)) else ((trust_Open.f a0 l1).bind fun bt314 => (if bt314.2.2 = true then ((trust_Wrap.f a0 bt314.2.1 bt314.1).bind fun bt319 => (if t313 = true then (if bt319.2 = true then ((phaetonref01_SameBytes.f bt319.1 l1).bind fun t323 => (if t323 = true then (some true) else (none))) else (none)) else (none))) else (if t313 = true then (if (bt314.1.length : Int) = 0 then (if bt314.2.1 = 0 then (some true) else (none)) else (none)) else (none)))))
theorem phaetonlaw16_TrustOpen.mono : ∀ a0 a1 k, LeO (phaetonlaw16_TrustOpen.f k a0 a1) (phaetonlaw16_TrustOpen.f (k + 1) a0 a1) := by
  intro a0 a1 k
  unfold phaetonlaw16_TrustOpen.f
  repeat' first
      | (with_reducible exact phaetonlaw16_head.mono _)
      | (with_reducible exact LeO.refl _)
      | (with_reducible exact LeO.none _)
      | (with_reducible refine LeO.ite ?_ ?_)
      | (with_reducible refine LeO.bind ?_ (fun _ => ?_))
      | exact phaetonlaw16_head.mono _
      | exact LeO.none _
      | refine LeO.ite ?_ ?_
      | refine LeO.bind ?_ (fun _ => ?_)
set_option maxHeartbeats 8000000 in
set_option maxRecDepth 100000 in
theorem phaetonlaw16_TrustOpen.calls (k : Nat) (a0 : Int) (A1 : Option Addr) (c1 : Nat) (l1 : List Int) (r : Bool) (w : World) (hr1 : Kd.C (Kd.int .u8) w A1 l1.length l1) (hc1 : l1.length ≤ c1) (h : phaetonlaw16_TrustOpen.f k a0 l1 = some r) :
    Calls Try.prog 5 #[.int .i64 a0, .slice A1 l1.length c1] w fun e w' => e = .returned (.bool r) ∧ Below w.heap.size w w' := by
  have HR1 := Aside0.mk hr1
  have HC1 := Aside0.mk hc1
  clear hr1 hc1
  have HB := Aside0.mk (Below.refl w.heap.size w)
  have H : ((phaetonlaw16_head.f k).bind fun t313 => (if (l1.length : Int) > 100 then (if t313 = true then (some true) else (none)) else ((trust_Open.f a0 l1).bind fun bt314 => (if bt314.2.2 = true then ((trust_Wrap.f a0 bt314.2.1 bt314.1).bind fun bt319 => (if t313 = true then (if bt319.2 = true then ((phaetonref01_SameBytes.f bt319.1 l1).bind fun t323 => (if t323 = true then (some true) else (none))) else (none)) else (none))) else (if t313 = true then (if (bt314.1.length : Int) = 0 then (if bt314.2.1 = 0 then (some true) else (none)) else (none)) else (none)))))) = some r := h
  clear h
  replace H := Option.bind_eq_some_iff.mp H
  obtain ⟨t313, A30, H⟩ := H
  replace H : (if (l1.length : Int) > 100 then (if t313 = true then (some true) else (none)) else ((trust_Open.f a0 l1).bind fun bt314 => (if bt314.2.2 = true then ((trust_Wrap.f a0 bt314.2.1 bt314.1).bind fun bt319 => (if t313 = true then (if bt319.2 = true then ((phaetonref01_SameBytes.f bt319.1 l1).bind fun t323 => (if t323 = true then (some true) else (none))) else (none)) else (none))) else (if t313 = true then (if (bt314.1.length : Int) = 0 then (if bt314.2.1 = 0 then (some true) else (none)) else (none)) else (none))))) = some r := H
  have A3 := Aside0.mk A30
  clear A30
  by_cases c4 : (l1.length : Int) > 100
  · rw [if_pos c4] at H
    have c4b0 : decide (100 < (l1.length : Int)) = true := decide_eq_true c4
    have c4b1 : decide (100 < l1.length) = true := decide_eq_true (by omega)
    clear c4
    by_cases c5 : t313 = true
    · subst c5
      have H1 : (some true) = some r := by rw [if_pos rfl] at H; exact H
      clear H
      have H := H1
      clear H1
      obtain rfl := Option.some.inj H
      go_enter Try.func5, Try.ntmps5
      (try simp only [List.append])
      go_wp2_with (first | ((with_reducible refine gate_callee (f := 10) rfl ?_); refine goesL_ (some 11) rfl rfl Try.func10 (by kernel_rfl) rfl #[] rfl (by (try simp only [List.map_toArray, List.map_cons, List.map_nil]); first | done | rfl | (simp only [List.length_drop, List.length_take]; rfl)) ?_; (with_reducible refine (phaetonlaw16_head.calls k  true _ A3.out).mono ?_); rintro e w6 ⟨rfl, hb⟩; refine ⟨_, rfl, ?_⟩; have n0_ := Aside0.mk (below_step (by repeat (first | (with_reducible first | exact HB.out | apply below_alloc | apply pw_below_drewN | apply below_drew1) | exact HB.out)) hb); clear HB; have HB := n0_; clear n0_; (try clear hb); (try clear hb2); (try clear hk); (try clear hi)))
      go_ret
      exact ⟨by first | rfl | (simp [errW_none, errW_some] <;> rfl) | (simp [*, errW_none, errW_some] <;> rfl), by repeat (first | (with_reducible first | exact HB.out | apply below_alloc | apply pw_below_drewN | apply below_drew1) | exact HB.out)⟩
    · replace c5 := Bool.eq_false_iff.mpr c5
      subst c5
      have H1 : (none) = some r := by rw [if_neg (show ¬ (false = true) by decide)] at H; exact H
      clear H
      have H := H1
      clear H1
      exact absurd H (by simp)
  · rw [if_neg c4] at H
    have c4b0 : decide (100 < (l1.length : Int)) = false := decide_eq_false c4
    have c4b1 : decide (100 < l1.length) = false := decide_eq_false (by omega)
    clear c4
    replace H := Option.bind_eq_some_iff.mp H
    obtain ⟨⟨t314, t315, t316⟩, A70, H⟩ := H
    replace H : (if t316 = true then ((trust_Wrap.f a0 t315 t314).bind fun bt319 => (if t313 = true then (if bt319.2 = true then ((phaetonref01_SameBytes.f bt319.1 l1).bind fun t323 => (if t323 = true then (some true) else (none))) else (none)) else (none))) else (if t313 = true then (if (t314.length : Int) = 0 then (if t315 = 0 then (some true) else (none)) else (none)) else (none))) = some r := H
    have A7 := Aside0.mk A70
    clear A70
    by_cases c8 : t316 = true
    · subst c8
      have H1 : ((trust_Wrap.f a0 t315 t314).bind fun bt319 => (if t313 = true then (if bt319.2 = true then ((phaetonref01_SameBytes.f bt319.1 l1).bind fun t323 => (if t323 = true then (some true) else (none))) else (none)) else (none))) = some r := by rw [if_pos rfl] at H; exact H
      clear H
      have H := H1
      clear H1
      replace H := Option.bind_eq_some_iff.mp H
      obtain ⟨⟨t319, t320⟩, A90, H⟩ := H
      replace H : (if t313 = true then (if t320 = true then ((phaetonref01_SameBytes.f t319 l1).bind fun t323 => (if t323 = true then (some true) else (none))) else (none)) else (none)) = some r := H
      have A9 := Aside0.mk A90
      clear A90
      by_cases c10 : t313 = true
      · subst c10
        have H1 : (if t320 = true then ((phaetonref01_SameBytes.f t319 l1).bind fun t323 => (if t323 = true then (some true) else (none))) else (none)) = some r := by rw [if_pos rfl] at H; exact H
        clear H
        have H := H1
        clear H1
        by_cases c11 : t320 = true
        · subst c11
          have H1 : ((phaetonref01_SameBytes.f t319 l1).bind fun t323 => (if t323 = true then (some true) else (none))) = some r := by rw [if_pos rfl] at H; exact H
          clear H
          have H := H1
          clear H1
          replace H := Option.bind_eq_some_iff.mp H
          obtain ⟨t323, A120, H⟩ := H
          replace H : (if t323 = true then (some true) else (none)) = some r := H
          have A12 := Aside0.mk A120
          clear A120
          by_cases c13 : t323 = true
          · subst c13
            have H1 : (some true) = some r := by rw [if_pos rfl] at H; exact H
            clear H
            have H := H1
            clear H1
            obtain rfl := Option.some.inj H
            go_enter Try.func5, Try.ntmps5
            (try simp only [List.append])
            go_wp2_with (first | ((with_reducible refine gate_callee (f := 10) rfl ?_); refine goesL_ (some 11) rfl rfl Try.func10 (by kernel_rfl) rfl #[] rfl (by (try simp only [List.map_toArray, List.map_cons, List.map_nil]); first | done | rfl | (simp only [List.length_drop, List.length_take]; rfl)) ?_; (with_reducible refine (phaetonlaw16_head.calls k  true _ A3.out).mono ?_); rintro e w14 ⟨rfl, hb⟩; refine ⟨_, rfl, ?_⟩; have n0_ := Aside0.mk (below_step (by repeat (first | (with_reducible first | exact HB.out | apply below_alloc | apply pw_below_drewN | apply below_drew1) | exact HB.out)) hb); clear HB; have HB := n0_; clear n0_; (try clear hb); (try clear hb2); (try clear hk); (try clear hi)) | ((with_reducible refine gate_callee (f := 13) rfl ?_); refine goesL_ (some 19) rfl rfl Try.func13 (by kernel_rfl) rfl #[.int .i64 a0, .slice A1 l1.length c1] rfl (by (try simp only [List.map_toArray, List.map_cons, List.map_nil]); first | done | rfl | (simp only [List.length_drop, List.length_take]; rfl)) ?_; (with_reducible refine (trust_Open.calls a0 _ _ l1 t314 t315 true _ ?side1 ?side2 A7.out).mono ?_); (case side1 => repeat (first | exact (Kd.C_below HR1.out HB.out) | (with_reducible refine Kd.C_alloc ?_ _) | (with_reducible refine Kd.C_drewN ?_ _) | (with_reducible refine Kd.C_drew ?_))); (case side2 => exact HC1.out); rintro e w15 ⟨v317, rfl, ho0, hb⟩; refine ⟨_, rfl, ?_⟩; have n0_ := Aside0.mk (Kd.R_lower ho0 (below_size (by repeat (first | (with_reducible first | exact HB.out | apply below_alloc | apply pw_below_drewN | apply below_drew1) | exact HB.out)))); have n1_ := Aside0.mk (below_step (by repeat (first | (with_reducible first | exact HB.out | apply below_alloc | apply pw_below_drewN | apply below_drew1) | exact HB.out)) hb); clear HB; have HO318 := n0_; have HB := n1_; clear n0_ n1_; (try clear hb); (try clear hb2); (try clear hk); (try clear hi); (try clear ho0); obtain ⟨Ao16, co16, eo16⟩ := Kd.R_slice HO318.out; subst eo16) | ((with_reducible refine gate_callee (f := 11) rfl ?_); refine goesL_ (some 39) rfl rfl Try.func11 (by kernel_rfl) rfl #[.int .i64 a0, .int .i64 t315, .slice Ao16 t314.length co16] rfl (by (try simp only [List.map_toArray, List.map_cons, List.map_nil]); first | done | rfl | (simp only [List.length_drop, List.length_take]; rfl)) ?_; (with_reducible refine (trust_Wrap.calls a0 t315 _ _ t314 t319 true _ ?side1 ?side2 A9.out).mono ?_); (case side1 => repeat (first | exact (Kd.R_reads' HO318.out).2.2 | (with_reducible refine Kd.C_alloc ?_ _) | (with_reducible refine Kd.C_drewN ?_ _) | (with_reducible refine Kd.C_drew ?_))); (case side2 => exact (Kd.R_reads' HO318.out).2.1); rintro e w17 ⟨v321, rfl, ho0, hb⟩; refine ⟨_, rfl, ?_⟩; have n0_ := Aside0.mk (Kd.R_elder' (by (with_reducible repeat (first | apply Kd.R_alloc | apply Kd.R_drewN | apply Kd.R_drew)); exact HO318.out) (Kd.R_base ho0) hb); have n1_ := Aside0.mk (Kd.R_lower (Kd.R_new' ho0 (Kd.R_lt (by (with_reducible repeat (first | apply Kd.R_alloc | apply Kd.R_drewN | apply Kd.R_drew)); exact HO318.out))) (below_size (by repeat (first | (with_reducible first | exact HB.out | apply below_alloc | apply pw_below_drewN | apply below_drew1) | exact HB.out)))); have n2_ := Aside0.mk (below_step (by repeat (first | (with_reducible first | exact HB.out | apply below_alloc | apply pw_below_drewN | apply below_drew1) | exact HB.out)) hb); clear HO318; clear HB; have HO318 := n0_; have HO322 := n1_; have HB := n2_; clear n0_ n1_ n2_; (try clear hb); (try clear hb2); (try clear hk); (try clear hi); (try clear ho0); obtain ⟨Ao18, co18, eo18⟩ := Kd.R_slice HO322.out; subst eo18) | (go_at_call 15; (with_reducible refine (phaetonref01_SameBytes.calls _ _ t319 _ _ l1 true _ ?side1 ?side2 ?side3 ?side4 A12.out).mono ?_); (case side1 => repeat (first | exact (Kd.R_reads' HO322.out).2.2 | (with_reducible refine Kd.C_alloc ?_ _) | (with_reducible refine Kd.C_drewN ?_ _) | (with_reducible refine Kd.C_drew ?_))); (case side2 => exact (Kd.R_reads' HO322.out).2.1); (case side3 => repeat (first | exact (Kd.C_below HR1.out HB.out) | (with_reducible refine Kd.C_alloc ?_ _) | (with_reducible refine Kd.C_drewN ?_ _) | (with_reducible refine Kd.C_drew ?_))); (case side4 => exact HC1.out); rintro e w' ⟨rfl, ⟨nd, rfl⟩⟩))
            go_ret
            exact ⟨by first | rfl | (simp [errW_none, errW_some] <;> rfl) | (simp [*, errW_none, errW_some] <;> rfl), by repeat (first | (with_reducible first | exact HB.out | apply below_alloc | apply pw_below_drewN | apply below_drew1) | exact HB.out)⟩
          · replace c13 := Bool.eq_false_iff.mpr c13
            subst c13
            have H1 : (none) = some r := by rw [if_neg (show ¬ (false = true) by decide)] at H; exact H
            clear H
            have H := H1
            clear H1
            exact absurd H (by simp)
        · replace c11 := Bool.eq_false_iff.mpr c11
          subst c11
          have H1 : (none) = some r := by rw [if_neg (show ¬ (false = true) by decide)] at H; exact H
          clear H
          have H := H1
          clear H1
          exact absurd H (by simp)
      · replace c10 := Bool.eq_false_iff.mpr c10
        subst c10
        have H1 : (none) = some r := by rw [if_neg (show ¬ (false = true) by decide)] at H; exact H
        clear H
        have H := H1
        clear H1
        exact absurd H (by simp)
    · replace c8 := Bool.eq_false_iff.mpr c8
      subst c8
      have H1 : (if t313 = true then (if (t314.length : Int) = 0 then (if t315 = 0 then (some true) else (none)) else (none)) else (none)) = some r := by rw [if_neg (show ¬ (false = true) by decide)] at H; exact H
      clear H
      have H := H1
      clear H1
      by_cases c19 : t313 = true
      · subst c19
        have H1 : (if (t314.length : Int) = 0 then (if t315 = 0 then (some true) else (none)) else (none)) = some r := by rw [if_pos rfl] at H; exact H
        clear H
        have H := H1
        clear H1
        by_cases c20 : (t314.length : Int) = 0
        · rw [if_pos c20] at H
          have c20b0 : ((t314.length : Int) == 0) = true := beq_iff_eq.mpr c20
          have c20b1 : ((t314.length : Int) != 0) = false := bne_eq_false_iff_eq.mpr c20
          clear c20
          by_cases c21 : t315 = 0
          · rw [if_pos c21] at H
            have c21b0 : (t315 == 0) = true := beq_iff_eq.mpr c21
            have c21b1 : (t315 != 0) = false := bne_eq_false_iff_eq.mpr c21
            clear c21
            obtain rfl := Option.some.inj H
            go_enter Try.func5, Try.ntmps5
            (try simp only [List.append])
            go_wp2_with (first | ((with_reducible refine gate_callee (f := 10) rfl ?_); refine goesL_ (some 11) rfl rfl Try.func10 (by kernel_rfl) rfl #[] rfl (by (try simp only [List.map_toArray, List.map_cons, List.map_nil]); first | done | rfl | (simp only [List.length_drop, List.length_take]; rfl)) ?_; (with_reducible refine (phaetonlaw16_head.calls k  true _ A3.out).mono ?_); rintro e w22 ⟨rfl, hb⟩; refine ⟨_, rfl, ?_⟩; have n0_ := Aside0.mk (below_step (by repeat (first | (with_reducible first | exact HB.out | apply below_alloc | apply pw_below_drewN | apply below_drew1) | exact HB.out)) hb); clear HB; have HB := n0_; clear n0_; (try clear hb); (try clear hb2); (try clear hk); (try clear hi)) | ((with_reducible refine gate_callee (f := 13) rfl ?_); refine goesL_ (some 19) rfl rfl Try.func13 (by kernel_rfl) rfl #[.int .i64 a0, .slice A1 l1.length c1] rfl (by (try simp only [List.map_toArray, List.map_cons, List.map_nil]); first | done | rfl | (simp only [List.length_drop, List.length_take]; rfl)) ?_; (with_reducible refine (trust_Open.calls a0 _ _ l1 t314 t315 false _ ?side1 ?side2 A7.out).mono ?_); (case side1 => repeat (first | exact (Kd.C_below HR1.out HB.out) | (with_reducible refine Kd.C_alloc ?_ _) | (with_reducible refine Kd.C_drewN ?_ _) | (with_reducible refine Kd.C_drew ?_))); (case side2 => exact HC1.out); rintro e w23 ⟨v317, rfl, ho0, hb⟩; refine ⟨_, rfl, ?_⟩; have n0_ := Aside0.mk (Kd.R_lower ho0 (below_size (by repeat (first | (with_reducible first | exact HB.out | apply below_alloc | apply pw_below_drewN | apply below_drew1) | exact HB.out)))); have n1_ := Aside0.mk (below_step (by repeat (first | (with_reducible first | exact HB.out | apply below_alloc | apply pw_below_drewN | apply below_drew1) | exact HB.out)) hb); clear HB; have HO318 := n0_; have HB := n1_; clear n0_ n1_; (try clear hb); (try clear hb2); (try clear hk); (try clear hi); (try clear ho0); obtain ⟨Ao24, co24, eo24⟩ := Kd.R_slice HO318.out; subst eo24))
            go_ret
            exact ⟨by first | rfl | (simp [errW_none, errW_some] <;> rfl) | (simp [*, errW_none, errW_some] <;> rfl), by repeat (first | (with_reducible first | exact HB.out | apply below_alloc | apply pw_below_drewN | apply below_drew1) | exact HB.out)⟩
          · rw [if_neg c21] at H
            exact absurd H (by simp)
        · rw [if_neg c20] at H
          exact absurd H (by simp)
      · replace c19 := Bool.eq_false_iff.mpr c19
        subst c19
        have H1 : (none) = some r := by rw [if_neg (show ¬ (false = true) by decide)] at H; exact H
        clear H
        have H := H1
        clear H1
        exact absurd H (by simp)

/-- THE ONE PURE STATEMENT of phaetonlaw16_TrustOpen: yours. -/
def phaetonlaw16_TrustOpen.Pure : Prop := ∀ (a0 : Int) (l1 : List Int), (Lit.int .i64 a0).wf = true → l1.length ≤ maxLen → l1.length * 1 ≤ 140737488351232 → (∀ x ∈ l1, (Lit.int .u8 x).wf = true) → ∃ k, phaetonlaw16_TrustOpen.f k a0 l1 = some true
theorem phaetonlaw16_TrustOpen.walk (P : phaetonlaw16_TrustOpen.Pure) (a0 : Int) (a1 : Option Addr) (len1 cap1 : Nat) (z1 : List Int) (w : World) (w0 : (Lit.int .i64 a0).wf = true) (w1 : (a1 = none ∧ len1 = 0 ∧ cap1 = 0 ∧ z1 = []) ∨ ∃ x, a1 = some x ∧ len1 ≤ cap1 ∧ cap1 ≤ maxLen ∧ z1.length = cap1 ∧ (∀ i, i < z1.length → w.cell? (x.add i) = some (.int .u8 (z1.getD i 0))) ∧ ∀ n ∈ z1, (Lit.int .u8 n).wf = true) (y1 : len1 * 1 ≤ 140737488351232) :
    Calls Try.prog 5 #[.int .i64 a0, .slice a1 len1 cap1] w fun e w' => e = .returned (.bool true) ∧ Below w.heap.size w w' := by
  obtain ⟨l1, rfl, hr1, hm1, hw1, hc1⟩ := ReadsInt.ofRowC w1
  obtain ⟨k, h⟩ := P a0 l1 w0 hm1 y1 hw1
  refine (phaetonlaw16_TrustOpen.calls k a0 _ _ l1 true w (Kd.C_of_reads (d := (0 : Int)) (h1 := fun _ => rfl) hr1) hc1 h).mono ?_
  rintro e w' ⟨rfl, hd⟩
  exact ⟨rfl, hd⟩

end Go.Proofs.Ytfjffajmagefkaa.Px

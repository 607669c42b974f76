-- Written by myprint.py, a program of this session's, over the kit's print.py; not a text of print.sh's own.
import Derived.Test.YtcakokhhpihmlaaPx0
import Derived.Test.YtcakokhhpihmlaaPx1
import Derived.Test.YtcakokhhpihmlaaPx2
import Derived.Test.YtcakokhhpihmlaaPx3
namespace Go.Proofs.Ytcakokhhpihmlaa.Px
open Go.RowKit Go.Proofs.YtcakokhhpihmlaaW.PrintWords Go.Proofs.YtcakokhhpihmlaaW.PrintLast Go.Proofs.YtcakokhhpihmlaaW.PrintMore
attribute [local go_sem] max2_int min2_int max_two min_two max_three min_three max_four min_four   -- for this text's walks alone
set_option linter.unusedVariables false
set_option linter.unusedSimpArgs false

/-! ### phaetonlaw01_BitsParts: function 7 -/
mutual
def phaetonlaw01_BitsParts.j0 : Nat → List Int → List Int → List Int → List Int → Bool → Bool → Option (Bool)
  | 0, _, _, _, _, _, _ => none
  | k + 1, x0, x1, x2, x3, x9, x36 => if x36 = true then (if x9 = true then (some true) else (none)) else ((some (([] : List Int) : List Int)).bind fun y263 => (if y263.length + x0.length < 17592186044416 then ((some (y263 ++ x0 : List Int)).bind fun y266 => (if y266.length + x1.length < 17592186044416 then ((some (y266 ++ x1 : List Int)).bind fun y269 => ((some (([] : List Int) : List Int)).bind fun y272 => (if y272.length + x2.length < 140737488355328 then ((some (y272 ++ x2 : List Int)).bind fun y275 => (if y275.length + x3.length < 140737488355328 then ((some (y275 ++ x3 : List Int)).bind fun y278 => ((bits_Right.f k y269).bind fun t281 => ((bits_Right.f k x0).bind fun t282 => (if t282 = true then ((bits_Right.f k x1).bind fun t283 => (if (t281 != t283) = true then (phaetonlaw01_BitsParts.j1 k x0 x1 x9 y269 true) else ((bits_Spread.f y278).bind fun t284 => ((some (([] : List Int) : List Int)).bind fun y287 => ((bits_Spread.f x2).bind fun t290 => (if y287.length + t290.length < 17592186044416 then ((some (y287 ++ t290 : List Int)).bind fun y293 => ((bits_Spread.f x3).bind fun t296 => (if y293.length + t296.length < 17592186044416 then ((phaetonref01_Same.f k t284 (y293 ++ t296)).bind fun t302 => (phaetonlaw01_BitsParts.j1 k x0 x1 x9 y269 (!t302))) else (none)))) else (none))))))) else (if (t281 != false) = true then (phaetonlaw01_BitsParts.j1 k x0 x1 x9 y269 true) else ((bits_Spread.f y278).bind fun t303 => ((some (([] : List Int) : List Int)).bind fun y306 => ((bits_Spread.f x2).bind fun t309 => (if y306.length + t309.length < 17592186044416 then ((some (y306 ++ t309 : List Int)).bind fun y312 => ((bits_Spread.f x3).bind fun t315 => (if y312.length + t315.length < 17592186044416 then ((phaetonref01_Same.f k t303 (y312 ++ t315)).bind fun t321 => (phaetonlaw01_BitsParts.j1 k x0 x1 x9 y269 (!t321))) else (none)))) else (none)))))))))) else (none))) else (none)))) else (none))) else (none)))
def phaetonlaw01_BitsParts.j1 : Nat → List Int → List Int → Bool → List Int → Bool → Option (Bool)
  | 0, _, _, _, _, _ => none
  | k + 1, x0, x1, x9, x10, x69 => if x69 = true then (none) else ((bits_Get.f k x10).bind fun bt322 => ((bits_Get.f k x0).bind fun bt324 => ((bits_Get.f k x1).bind fun bt326 => (if x9 = true then (if bt324.2 = true then (if (bt322.2 == bt326.2) = true then (if bt322.2 = true then (if (shr .i64 bt322.1 (x1.length : Int)) = bt324.1 then (if (shl .i64 1 (x1.length : Int)) = 0 then (none) else (if (Int.tmod bt322.1 (shl .i64 1 (x1.length : Int))) = bt326.1 then (some true) else (none))) else (none)) else (some true)) else (none)) else (if (bt322.2 == false) = true then (if bt322.2 = true then (if (shr .i64 bt322.1 (x1.length : Int)) = bt324.1 then (if (shl .i64 1 (x1.length : Int)) = 0 then (none) else (if (Int.tmod bt322.1 (shl .i64 1 (x1.length : Int))) = bt326.1 then (some true) else (none))) else (none)) else (some true)) else (none))) else (none)))))
end
def phaetonlaw01_BitsParts.f (k : Nat) (l0 : List Int) (l1 : List Int) (l2 : List Int) (l3 : List Int) : Option (Bool) := (phaetonlaw01_head.f k).bind fun t262 => (if (l0.length : Int) > 16 then (phaetonlaw01_BitsParts.j0 k l0 l1 l2 l3 t262 true) else (if (l1.length : Int) > 16 then (phaetonlaw01_BitsParts.j0 k l0 l1 l2 l3 t262 true) else (if (l2.length : Int) > 200 then (phaetonlaw01_BitsParts.j0 k l0 l1 l2 l3 t262 true) else (phaetonlaw01_BitsParts.j0 k l0 l1 l2 l3 t262 (decide ((l3.length : Int) > 200))))))
theorem phaetonlaw01_BitsParts.mono_l : ∀ k, (∀ y0 y1 y2 y3 y4 y5, LeO (phaetonlaw01_BitsParts.j0 k y0 y1 y2 y3 y4 y5) (phaetonlaw01_BitsParts.j0 (k + 1) y0 y1 y2 y3 y4 y5)) ∧ (∀ y0 y1 y2 y3 y4, LeO (phaetonlaw01_BitsParts.j1 k y0 y1 y2 y3 y4) (phaetonlaw01_BitsParts.j1 (k + 1) y0 y1 y2 y3 y4))
  | 0 => ⟨fun _ _ _ _ _ _ r h => by simp [phaetonlaw01_BitsParts.j0] at h, fun _ _ _ _ _ r h => by simp [phaetonlaw01_BitsParts.j1] at h⟩
  | k + 1 => by
    obtain ⟨ih0, ih1⟩ := phaetonlaw01_BitsParts.mono_l k
    refine ⟨?_, ?_⟩
    · intro y0 y1 y2 y3 y4 y5
      unfold phaetonlaw01_BitsParts.j0
      repeat' first
      | (with_reducible exact ih0 _ _ _ _ _ _)
      | (with_reducible exact ih1 _ _ _ _ _)
      | (with_reducible exact bits_Get.mono _ _)
      | (with_reducible exact bits_Right.mono _ _)
      | (with_reducible exact phaetonlaw01_head.mono _)
      | (with_reducible exact phaetonref01_Same.mono _ _ _)
      | (with_reducible exact LeO.refl _)
      | (with_reducible exact LeO.none _)
      | (with_reducible refine LeO.ite ?_ ?_)
      | (with_reducible refine LeO.bind ?_ (fun _ => ?_))
      | exact ih0 _ _ _ _ _ _
      | exact ih1 _ _ _ _ _
      | exact bits_Get.mono _ _
      | exact bits_Right.mono _ _
      | exact phaetonlaw01_head.mono _
      | exact phaetonref01_Same.mono _ _ _
      | exact LeO.none _
      | refine LeO.ite ?_ ?_
      | refine LeO.bind ?_ (fun _ => ?_)
    · intro y0 y1 y2 y3 y4
      unfold phaetonlaw01_BitsParts.j1
      repeat' first
      | (with_reducible exact ih0 _ _ _ _ _ _)
      | (with_reducible exact ih1 _ _ _ _ _)
      | (with_reducible exact bits_Get.mono _ _)
      | (with_reducible exact bits_Right.mono _ _)
      | (with_reducible exact phaetonlaw01_head.mono _)
      | (with_reducible exact phaetonref01_Same.mono _ _ _)
      | (with_reducible exact LeO.refl _)
      | (with_reducible exact LeO.none _)
      | (with_reducible refine LeO.ite ?_ ?_)
      | (with_reducible refine LeO.bind ?_ (fun _ => ?_))
      | exact ih0 _ _ _ _ _ _
      | exact ih1 _ _ _ _ _
      | exact bits_Get.mono _ _
      | exact bits_Right.mono _ _
      | exact phaetonlaw01_head.mono _
      | exact phaetonref01_Same.mono _ _ _
      | exact LeO.none _
      | refine LeO.ite ?_ ?_
      | refine LeO.bind ?_ (fun _ => ?_)
theorem phaetonlaw01_BitsParts.mono : ∀ a0 a1 a2 a3 k, LeO (phaetonlaw01_BitsParts.f k a0 a1 a2 a3) (phaetonlaw01_BitsParts.f (k + 1) a0 a1 a2 a3) := by
  intro a0 a1 a2 a3 k
  obtain ⟨ih0, ih1⟩ := phaetonlaw01_BitsParts.mono_l k
  unfold phaetonlaw01_BitsParts.f
  repeat' first
      | (with_reducible exact ih0 _ _ _ _ _ _)
      | (with_reducible exact ih1 _ _ _ _ _)
      | (with_reducible exact bits_Get.mono _ _)
      | (with_reducible exact bits_Right.mono _ _)
      | (with_reducible exact phaetonlaw01_head.mono _)
      | (with_reducible exact phaetonref01_Same.mono _ _ _)
      | (with_reducible exact LeO.refl _)
      | (with_reducible exact LeO.none _)
      | (with_reducible refine LeO.ite ?_ ?_)
      | (with_reducible refine LeO.bind ?_ (fun _ => ?_))
      | exact ih0 _ _ _ _ _ _
      | exact ih1 _ _ _ _ _
      | exact bits_Get.mono _ _
      | exact bits_Right.mono _ _
      | exact phaetonlaw01_head.mono _
      | exact phaetonref01_Same.mono _ _ _
      | exact LeO.none _
      | refine LeO.ite ?_ ?_
      | refine LeO.bind ?_ (fun _ => ?_)
set_option maxHeartbeats 8000000 in
set_option maxRecDepth 100000 in
theorem phaetonlaw01_BitsParts.calls (k : Nat) (A0 : Option Addr) (c0 : Nat) (l0 : List Int) (A1 : Option Addr) (c1 : Nat) (l1 : List Int) (A2 : Option Addr) (c2 : Nat) (l2 : List Int) (A3 : Option Addr) (c3 : Nat) (l3 : List Int) (r : Bool) (w : World) (hr0 : Kd.C (Kd.int .i64) w A0 l0.length l0) (hc0 : l0.length ≤ c0) (hr1 : Kd.C (Kd.int .i64) w A1 l1.length l1) (hc1 : l1.length ≤ c1) (hr2 : Kd.C (Kd.int .u8) w A2 l2.length l2) (hc2 : l2.length ≤ c2) (hr3 : Kd.C (Kd.int .u8) w A3 l3.length l3) (hc3 : l3.length ≤ c3) (h : phaetonlaw01_BitsParts.f k l0 l1 l2 l3 = some r) :
    Calls Try.prog 7 #[.slice A0 l0.length c0, .slice A1 l1.length c1, .slice A2 l2.length c2, .slice A3 l3.length c3] w fun e w' => e = .returned (.bool r) ∧ Below w.heap.size w w' := by
  have HR0 := Aside0.mk hr0
  have HC0 := Aside0.mk hc0
  clear hr0 hc0
  have HR1 := Aside0.mk hr1
  have HC1 := Aside0.mk hc1
  clear hr1 hc1
  have HR2 := Aside0.mk hr2
  have HC2 := Aside0.mk hc2
  clear hr2 hc2
  have HR3 := Aside0.mk hr3
  have HC3 := Aside0.mk hc3
  clear hr3 hc3
  have HB := Aside0.mk (Below.refl w.heap.size w)
  have H : ((phaetonlaw01_head.f k).bind fun t262 => (if (l0.length : Int) > 16 then (phaetonlaw01_BitsParts.j0 k l0 l1 l2 l3 t262 true) else (if (l1.length : Int) > 16 then (phaetonlaw01_BitsParts.j0 k l0 l1 l2 l3 t262 true) else (if (l2.length : Int) > 200 then (phaetonlaw01_BitsParts.j0 k l0 l1 l2 l3 t262 true) else (phaetonlaw01_BitsParts.j0 k l0 l1 l2 l3 t262 (decide ((l3.length : Int) > 200))))))) = some r := h
  clear h
  replace H := Option.bind_eq_some_iff.mp H
  obtain ⟨t262, A50, H⟩ := H
  replace H : (if (l0.length : Int) > 16 then (phaetonlaw01_BitsParts.j0 k l0 l1 l2 l3 t262 true) else (if (l1.length : Int) > 16 then (phaetonlaw01_BitsParts.j0 k l0 l1 l2 l3 t262 true) else (if (l2.length : Int) > 200 then (phaetonlaw01_BitsParts.j0 k l0 l1 l2 l3 t262 true) else (phaetonlaw01_BitsParts.j0 k l0 l1 l2 l3 t262 (decide ((l3.length : Int) > 200)))))) = some r := H
  have A5 := Aside0.mk A50
  clear A50
  have HC6 := Aside0.mk H
  clear H
  go_enter Try.func7, Try.ntmps7
  go_upto_region 2 with (first | ((with_reducible refine gate_callee (f := 10) rfl ?_); refine goesL_ (some 18) rfl rfl Try.func10 (by kernel_rfl) rfl #[] rfl (by (try simp only [List.map_toArray, List.map_cons, List.map_nil]); first | done | rfl | (simp only [List.length_drop, List.length_take]; rfl)) ?_; (with_reducible refine (phaetonlaw01_head.calls k  t262 _ A5.out).mono ?_); rintro e w7 ⟨rfl, hb⟩; refine ⟨_, rfl, ?_⟩; have n0_ := Aside0.mk (below_step (by repeat (first | (with_reducible first | exact HB.out | apply below_alloc | apply pw_below_drewN | apply below_drew1) | exact HB.out)) hb); clear HB; have HB := n0_; clear n0_; (try clear hb); (try clear hb2); (try clear hk); (try clear hi)))
  (try simp only [Act.put, List.setIfInBounds_toArray, List.set_cons_zero, List.set_cons_succ])
  go_cut [36] (fun v36 wc => ∃ (kq : Nat) (x36_5 : Bool), v36 = .bool x36_5 ∧ Aside0 (phaetonlaw01_BitsParts.j0 kq l0 l1 l2 l3 t262 x36_5 = some r) ∧ Aside0 (kq ≤ k) ∧ Aside0 (Below w.heap.size w wc))
  case first =>
    have H := HC6.out
    clear HC6
    by_cases c8 : (l0.length : Int) > 16
    · rw [if_pos c8] at H
      have c8b0 : decide (16 < (l0.length : Int)) = true := decide_eq_true c8
      have c8b1 : decide (16 < l0.length) = true := decide_eq_true (by omega)
      clear c8
      (first | rw [c8b0] | (simp only [i64_w, i32_w]; rw [c8b0]) | skip)
      have H' := Aside0.mk H
      clear H
      go_wp2
      go_meet
      case rel => exact ⟨_, (true), (by first | rfl | (simp; done) | (simp [*]; done)), H', ⟨by first | omega | exact Nat.le_refl _⟩, ⟨by repeat (first | (with_reducible first | exact HB.out | apply below_alloc | apply pw_below_drewN | apply below_drew1) | exact HB.out)⟩⟩
    · rw [if_neg c8] at H
      have c8b0 : decide (16 < (l0.length : Int)) = false := decide_eq_false c8
      have c8b1 : decide (16 < l0.length) = false := decide_eq_false (by omega)
      clear c8
      (first | rw [c8b0] | (simp only [i64_w, i32_w]; rw [c8b0]) | skip)
      by_cases c9 : (l1.length : Int) > 16
      · rw [if_pos c9] at H
        have c9b0 : decide (16 < (l1.length : Int)) = true := decide_eq_true c9
        have c9b1 : decide (16 < l1.length) = true := decide_eq_true (by omega)
        clear c9
        have H' := Aside0.mk H
        clear H
        go_wp2
        go_meet
        case rel => exact ⟨_, (true), (by first | rfl | (simp; done) | (simp [*]; done)), H', ⟨by first | omega | exact Nat.le_refl _⟩, ⟨by repeat (first | (with_reducible first | exact HB.out | apply below_alloc | apply pw_below_drewN | apply below_drew1) | exact HB.out)⟩⟩
      · rw [if_neg c9] at H
        have c9b0 : decide (16 < (l1.length : Int)) = false := decide_eq_false c9
        have c9b1 : decide (16 < l1.length) = false := decide_eq_false (by omega)
        clear c9
        by_cases c10 : (l2.length : Int) > 200
        · rw [if_pos c10] at H
          have c10b0 : decide (200 < (l2.length : Int)) = true := decide_eq_true c10
          have c10b1 : decide (200 < l2.length) = true := decide_eq_true (by omega)
          clear c10
          have H' := Aside0.mk H
          clear H
          go_wp2
          go_meet
          case rel => exact ⟨_, (true), (by first | rfl | (simp; done) | (simp [*]; done)), H', ⟨by first | omega | exact Nat.le_refl _⟩, ⟨by repeat (first | (with_reducible first | exact HB.out | apply below_alloc | apply pw_below_drewN | apply below_drew1) | exact HB.out)⟩⟩
        · rw [if_neg c10] at H
          have c10b0 : decide (200 < (l2.length : Int)) = false := decide_eq_false c10
          have c10b1 : decide (200 < l2.length) = false := decide_eq_false (by omega)
          clear c10
          have H' := Aside0.mk H
          clear H
          go_wp2
          go_meet
          case rel => exact ⟨_, (decide ((l3.length : Int) > 200)), (by first | rfl | (simp; done) | (simp [*]; done)), H', ⟨by first | omega | exact Nat.le_refl _⟩, ⟨by repeat (first | (with_reducible first | exact HB.out | apply below_alloc | apply pw_below_drewN | apply below_drew1) | exact HB.out)⟩⟩
  case rest =>
    clear HC6
    try clear c1
    try clear c2
    try clear p2
    try clear c3
    try clear c7
    try clear c8
    try clear c8b0
    try clear c8b1
    try clear c9
    try clear c9b0
    try clear c9b1
    try clear c10
    try clear c10b0
    try clear c10b1
    obtain ⟨kq, x36_5, rfl, HA, HJ5, HB⟩ := hcut
    cases kq with
    | zero => exact absurd HA.out (by simp [phaetonlaw01_BitsParts.j0])
    | succ kj5 =>
      have H := HA.out
      clear HA
      simp only [phaetonlaw01_BitsParts.j0] at H
      by_cases c11 : x36_5 = true
      · subst c11
        have H1 : (if t262 = true then (some true) else (none)) = some r := by rw [if_pos rfl] at H; exact H
        clear H
        have H := H1
        clear H1
        by_cases c12 : t262 = true
        · subst c12
          have H1 : (some true) = some r := by rw [if_pos rfl] at H; exact H
          clear H
          have H := H1
          clear H1
          obtain rfl := Option.some.inj H
          go_wp2
          go_ret
          exact ⟨by first | rfl | (simp [errW_none, errW_some] <;> rfl) | (simp [*, errW_none, errW_some] <;> rfl), by repeat (first | (with_reducible first | exact HB.out | apply below_alloc | apply pw_below_drewN | apply below_drew1) | exact HB.out)⟩
        · replace c12 := Bool.eq_false_iff.mpr c12
          subst c12
          have H1 : (none) = some r := by rw [if_neg (show ¬ (false = true) by decide)] at H; exact H
          clear H
          have H := H1
          clear H1
          exact absurd H (by simp)
      · replace c11 := Bool.eq_false_iff.mpr c11
        subst c11
        have H1 : ((some (([] : List Int) : List Int)).bind fun y263 => (if y263.length + l0.length < 17592186044416 then ((some (y263 ++ l0 : List Int)).bind fun y266 => (if y266.length + l1.length < 17592186044416 then ((some (y266 ++ l1 : List Int)).bind fun y269 => ((some (([] : List Int) : List Int)).bind fun y272 => (if y272.length + l2.length < 140737488355328 then ((some (y272 ++ l2 : List Int)).bind fun y275 => (if y275.length + l3.length < 140737488355328 then ((some (y275 ++ l3 : List Int)).bind fun y278 => ((bits_Right.f kj5 y269).bind fun t281 => ((bits_Right.f kj5 l0).bind fun t282 => (if t282 = true then ((bits_Right.f kj5 l1).bind fun t283 => (if (t281 != t283) = true then (phaetonlaw01_BitsParts.j1 kj5 l0 l1 t262 y269 true) else ((bits_Spread.f y278).bind fun t284 => ((some (([] : List Int) : List Int)).bind fun y287 => ((bits_Spread.f l2).bind fun t290 => (if y287.length + t290.length < 17592186044416 then ((some (y287 ++ t290 : List Int)).bind fun y293 => ((bits_Spread.f l3).bind fun t296 => (if y293.length + t296.length < 17592186044416 then ((phaetonref01_Same.f kj5 t284 (y293 ++ t296)).bind fun t302 => (phaetonlaw01_BitsParts.j1 kj5 l0 l1 t262 y269 (!t302))) else (none)))) else (none))))))) else (if (t281 != false) = true then (phaetonlaw01_BitsParts.j1 kj5 l0 l1 t262 y269 true) else ((bits_Spread.f y278).bind fun t303 => ((some (([] : List Int) : List Int)).bind fun y306 => ((bits_Spread.f l2).bind fun t309 => (if y306.length + t309.length < 17592186044416 then ((some (y306 ++ t309 : List Int)).bind fun y312 => ((bits_Spread.f l3).bind fun t315 => (if y312.length + t315.length < 17592186044416 then ((phaetonref01_Same.f kj5 t303 (y312 ++ t315)).bind fun t321 => (phaetonlaw01_BitsParts.j1 kj5 l0 l1 t262 y269 (!t321))) else (none)))) else (none)))))))))) else (none))) else (none)))) else (none))) else (none))) = some r := by rw [if_neg (show ¬ (false = true) by decide)] at H; exact H
        clear H
        have H := H1
        clear H1
        obtain ⟨y263, hy263⟩ : ∃ y_ : List Int, y_ = (([] : List Int)) := ⟨_, rfl⟩
        replace H : (if y263.length + l0.length < 17592186044416 then ((some (y263 ++ l0 : List Int)).bind fun y266 => (if y266.length + l1.length < 17592186044416 then ((some (y266 ++ l1 : List Int)).bind fun y269 => ((some (([] : List Int) : List Int)).bind fun y272 => (if y272.length + l2.length < 140737488355328 then ((some (y272 ++ l2 : List Int)).bind fun y275 => (if y275.length + l3.length < 140737488355328 then ((some (y275 ++ l3 : List Int)).bind fun y278 => ((bits_Right.f kj5 y269).bind fun t281 => ((bits_Right.f kj5 l0).bind fun t282 => (if t282 = true then ((bits_Right.f kj5 l1).bind fun t283 => (if (t281 != t283) = true then (phaetonlaw01_BitsParts.j1 kj5 l0 l1 t262 y269 true) else ((bits_Spread.f y278).bind fun t284 => ((some (([] : List Int) : List Int)).bind fun y287 => ((bits_Spread.f l2).bind fun t290 => (if y287.length + t290.length < 17592186044416 then ((some (y287 ++ t290 : List Int)).bind fun y293 => ((bits_Spread.f l3).bind fun t296 => (if y293.length + t296.length < 17592186044416 then ((phaetonref01_Same.f kj5 t284 (y293 ++ t296)).bind fun t302 => (phaetonlaw01_BitsParts.j1 kj5 l0 l1 t262 y269 (!t302))) else (none)))) else (none))))))) else (if (t281 != false) = true then (phaetonlaw01_BitsParts.j1 kj5 l0 l1 t262 y269 true) else ((bits_Spread.f y278).bind fun t303 => ((some (([] : List Int) : List Int)).bind fun y306 => ((bits_Spread.f l2).bind fun t309 => (if y306.length + t309.length < 17592186044416 then ((some (y306 ++ t309 : List Int)).bind fun y312 => ((bits_Spread.f l3).bind fun t315 => (if y312.length + t315.length < 17592186044416 then ((phaetonref01_Same.f kj5 t303 (y312 ++ t315)).bind fun t321 => (phaetonlaw01_BitsParts.j1 kj5 l0 l1 t262 y269 (!t321))) else (none)))) else (none)))))))))) else (none))) else (none)))) else (none))) else (none)) = some r := by first | (rw [hy263]; with_reducible exact H) | (have H2_ := (Option.bind_some _ _).symm.trans H; rw [hy263]; with_reducible exact H2_) | (have H2_ := (Option.bind_some _ _).symm.trans H; with_reducible exact H2_) | with_reducible exact H | (rw [hy263]; exact H) | exact H
        have Ny263 := Aside0.mk hy263
        clear hy263
        by_cases c13 : y263.length + l0.length < 17592186044416
        · rw [if_pos c13] at H
          have LMc13 := Aside0.mk c13
          clear c13
          obtain ⟨y266, hy266⟩ : ∃ y_ : List Int, y_ = (y263 ++ l0) := ⟨_, rfl⟩
          replace H : (if y266.length + l1.length < 17592186044416 then ((some (y266 ++ l1 : List Int)).bind fun y269 => ((some (([] : List Int) : List Int)).bind fun y272 => (if y272.length + l2.length < 140737488355328 then ((some (y272 ++ l2 : List Int)).bind fun y275 => (if y275.length + l3.length < 140737488355328 then ((some (y275 ++ l3 : List Int)).bind fun y278 => ((bits_Right.f kj5 y269).bind fun t281 => ((bits_Right.f kj5 l0).bind fun t282 => (if t282 = true then ((bits_Right.f kj5 l1).bind fun t283 => (if (t281 != t283) = true then (phaetonlaw01_BitsParts.j1 kj5 l0 l1 t262 y269 true) else ((bits_Spread.f y278).bind fun t284 => ((some (([] : List Int) : List Int)).bind fun y287 => ((bits_Spread.f l2).bind fun t290 => (if y287.length + t290.length < 17592186044416 then ((some (y287 ++ t290 : List Int)).bind fun y293 => ((bits_Spread.f l3).bind fun t296 => (if y293.length + t296.length < 17592186044416 then ((phaetonref01_Same.f kj5 t284 (y293 ++ t296)).bind fun t302 => (phaetonlaw01_BitsParts.j1 kj5 l0 l1 t262 y269 (!t302))) else (none)))) else (none))))))) else (if (t281 != false) = true then (phaetonlaw01_BitsParts.j1 kj5 l0 l1 t262 y269 true) else ((bits_Spread.f y278).bind fun t303 => ((some (([] : List Int) : List Int)).bind fun y306 => ((bits_Spread.f l2).bind fun t309 => (if y306.length + t309.length < 17592186044416 then ((some (y306 ++ t309 : List Int)).bind fun y312 => ((bits_Spread.f l3).bind fun t315 => (if y312.length + t315.length < 17592186044416 then ((phaetonref01_Same.f kj5 t303 (y312 ++ t315)).bind fun t321 => (phaetonlaw01_BitsParts.j1 kj5 l0 l1 t262 y269 (!t321))) else (none)))) else (none)))))))))) else (none))) else (none)))) else (none)) = some r := by first | (rw [hy266]; with_reducible exact H) | (have H2_ := (Option.bind_some _ _).symm.trans H; rw [hy266]; with_reducible exact H2_) | (have H2_ := (Option.bind_some _ _).symm.trans H; with_reducible exact H2_) | with_reducible exact H | (rw [hy266]; exact H) | exact H
          have Ny266 := Aside0.mk hy266
          clear hy266
          by_cases c14 : y266.length + l1.length < 17592186044416
          · rw [if_pos c14] at H
            have LMc14 := Aside0.mk c14
            clear c14
            obtain ⟨y269, hy269⟩ : ∃ y_ : List Int, y_ = (y266 ++ l1) := ⟨_, rfl⟩
            replace H : ((some (([] : List Int) : List Int)).bind fun y272 => (if y272.length + l2.length < 140737488355328 then ((some (y272 ++ l2 : List Int)).bind fun y275 => (if y275.length + l3.length < 140737488355328 then ((some (y275 ++ l3 : List Int)).bind fun y278 => ((bits_Right.f kj5 y269).bind fun t281 => ((bits_Right.f kj5 l0).bind fun t282 => (if t282 = true then ((bits_Right.f kj5 l1).bind fun t283 => (if (t281 != t283) = true then (phaetonlaw01_BitsParts.j1 kj5 l0 l1 t262 y269 true) else ((bits_Spread.f y278).bind fun t284 => ((some (([] : List Int) : List Int)).bind fun y287 => ((bits_Spread.f l2).bind fun t290 => (if y287.length + t290.length < 17592186044416 then ((some (y287 ++ t290 : List Int)).bind fun y293 => ((bits_Spread.f l3).bind fun t296 => (if y293.length + t296.length < 17592186044416 then ((phaetonref01_Same.f kj5 t284 (y293 ++ t296)).bind fun t302 => (phaetonlaw01_BitsParts.j1 kj5 l0 l1 t262 y269 (!t302))) else (none)))) else (none))))))) else (if (t281 != false) = true then (phaetonlaw01_BitsParts.j1 kj5 l0 l1 t262 y269 true) else ((bits_Spread.f y278).bind fun t303 => ((some (([] : List Int) : List Int)).bind fun y306 => ((bits_Spread.f l2).bind fun t309 => (if y306.length + t309.length < 17592186044416 then ((some (y306 ++ t309 : List Int)).bind fun y312 => ((bits_Spread.f l3).bind fun t315 => (if y312.length + t315.length < 17592186044416 then ((phaetonref01_Same.f kj5 t303 (y312 ++ t315)).bind fun t321 => (phaetonlaw01_BitsParts.j1 kj5 l0 l1 t262 y269 (!t321))) else (none)))) else (none)))))))))) else (none))) else (none))) = some r := by first | (rw [hy269]; with_reducible exact H) | (have H2_ := (Option.bind_some _ _).symm.trans H; rw [hy269]; with_reducible exact H2_) | (have H2_ := (Option.bind_some _ _).symm.trans H; with_reducible exact H2_) | with_reducible exact H | (rw [hy269]; exact H) | exact H
            have Ny269 := Aside0.mk hy269
            clear hy269
            obtain ⟨y272, hy272⟩ : ∃ y_ : List Int, y_ = (([] : List Int)) := ⟨_, rfl⟩
            replace H : (if y272.length + l2.length < 140737488355328 then ((some (y272 ++ l2 : List Int)).bind fun y275 => (if y275.length + l3.length < 140737488355328 then ((some (y275 ++ l3 : List Int)).bind fun y278 => ((bits_Right.f kj5 y269).bind fun t281 => ((bits_Right.f kj5 l0).bind fun t282 => (if t282 = true then ((bits_Right.f kj5 l1).bind fun t283 => (if (t281 != t283) = true then (phaetonlaw01_BitsParts.j1 kj5 l0 l1 t262 y269 true) else ((bits_Spread.f y278).bind fun t284 => ((some (([] : List Int) : List Int)).bind fun y287 => ((bits_Spread.f l2).bind fun t290 => (if y287.length + t290.length < 17592186044416 then ((some (y287 ++ t290 : List Int)).bind fun y293 => ((bits_Spread.f l3).bind fun t296 => (if y293.length + t296.length < 17592186044416 then ((phaetonref01_Same.f kj5 t284 (y293 ++ t296)).bind fun t302 => (phaetonlaw01_BitsParts.j1 kj5 l0 l1 t262 y269 (!t302))) else (none)))) else (none))))))) else (if (t281 != false) = true then (phaetonlaw01_BitsParts.j1 kj5 l0 l1 t262 y269 true) else ((bits_Spread.f y278).bind fun t303 => ((some (([] : List Int) : List Int)).bind fun y306 => ((bits_Spread.f l2).bind fun t309 => (if y306.length + t309.length < 17592186044416 then ((some (y306 ++ t309 : List Int)).bind fun y312 => ((bits_Spread.f l3).bind fun t315 => (if y312.length + t315.length < 17592186044416 then ((phaetonref01_Same.f kj5 t303 (y312 ++ t315)).bind fun t321 => (phaetonlaw01_BitsParts.j1 kj5 l0 l1 t262 y269 (!t321))) else (none)))) else (none)))))))))) else (none))) else (none)) = some r := by first | (rw [hy272]; with_reducible exact H) | (have H2_ := (Option.bind_some _ _).symm.trans H; rw [hy272]; with_reducible exact H2_) | (have H2_ := (Option.bind_some _ _).symm.trans H; with_reducible exact H2_) | with_reducible exact H | (rw [hy272]; exact H) | exact H
            have Ny272 := Aside0.mk hy272
            clear hy272
            by_cases c15 : y272.length + l2.length < 140737488355328
            · rw [if_pos c15] at H
              have LMc15 := Aside0.mk c15
              clear c15
              obtain ⟨y275, hy275⟩ : ∃ y_ : List Int, y_ = (y272 ++ l2) := ⟨_, rfl⟩
              replace H : (if y275.length + l3.length < 140737488355328 then ((some (y275 ++ l3 : List Int)).bind fun y278 => ((bits_Right.f kj5 y269).bind fun t281 => ((bits_Right.f kj5 l0).bind fun t282 => (if t282 = true then ((bits_Right.f kj5 l1).bind fun t283 => (if (t281 != t283) = true then (phaetonlaw01_BitsParts.j1 kj5 l0 l1 t262 y269 true) else ((bits_Spread.f y278).bind fun t284 => ((some (([] : List Int) : List Int)).bind fun y287 => ((bits_Spread.f l2).bind fun t290 => (if y287.length + t290.length < 17592186044416 then ((some (y287 ++ t290 : List Int)).bind fun y293 => ((bits_Spread.f l3).bind fun t296 => (if y293.length + t296.length < 17592186044416 then ((phaetonref01_Same.f kj5 t284 (y293 ++ t296)).bind fun t302 => (phaetonlaw01_BitsParts.j1 kj5 l0 l1 t262 y269 (!t302))) else (none)))) else (none))))))) else (if (t281 != false) = true then (phaetonlaw01_BitsParts.j1 kj5 l0 l1 t262 y269 true) else ((bits_Spread.f y278).bind fun t303 => ((some (([] : List Int) : List Int)).bind fun y306 => ((bits_Spread.f l2).bind fun t309 => (if y306.length + t309.length < 17592186044416 then ((some (y306 ++ t309 : List Int)).bind fun y312 => ((bits_Spread.f l3).bind fun t315 => (if y312.length + t315.length < 17592186044416 then ((phaetonref01_Same.f kj5 t303 (y312 ++ t315)).bind fun t321 => (phaetonlaw01_BitsParts.j1 kj5 l0 l1 t262 y269 (!t321))) else (none)))) else (none)))))))))) else (none)) = some r := by first | (rw [hy275]; with_reducible exact H) | (have H2_ := (Option.bind_some _ _).symm.trans H; rw [hy275]; with_reducible exact H2_) | (have H2_ := (Option.bind_some _ _).symm.trans H; with_reducible exact H2_) | with_reducible exact H | (rw [hy275]; exact H) | exact H
              have Ny275 := Aside0.mk hy275
              clear hy275
              by_cases c16 : y275.length + l3.length < 140737488355328
              · rw [if_pos c16] at H
                have LMc16 := Aside0.mk c16
                clear c16
                obtain ⟨y278, hy278⟩ : ∃ y_ : List Int, y_ = (y275 ++ l3) := ⟨_, rfl⟩
                replace H : ((bits_Right.f kj5 y269).bind fun t281 => ((bits_Right.f kj5 l0).bind fun t282 => (if t282 = true then ((bits_Right.f kj5 l1).bind fun t283 => (if (t281 != t283) = true then (phaetonlaw01_BitsParts.j1 kj5 l0 l1 t262 y269 true) else ((bits_Spread.f y278).bind fun t284 => ((some (([] : List Int) : List Int)).bind fun y287 => ((bits_Spread.f l2).bind fun t290 => (if y287.length + t290.length < 17592186044416 then ((some (y287 ++ t290 : List Int)).bind fun y293 => ((bits_Spread.f l3).bind fun t296 => (if y293.length + t296.length < 17592186044416 then ((phaetonref01_Same.f kj5 t284 (y293 ++ t296)).bind fun t302 => (phaetonlaw01_BitsParts.j1 kj5 l0 l1 t262 y269 (!t302))) else (none)))) else (none))))))) else (if (t281 != false) = true then (phaetonlaw01_BitsParts.j1 kj5 l0 l1 t262 y269 true) else ((bits_Spread.f y278).bind fun t303 => ((some (([] : List Int) : List Int)).bind fun y306 => ((bits_Spread.f l2).bind fun t309 => (if y306.length + t309.length < 17592186044416 then ((some (y306 ++ t309 : List Int)).bind fun y312 => ((bits_Spread.f l3).bind fun t315 => (if y312.length + t315.length < 17592186044416 then ((phaetonref01_Same.f kj5 t303 (y312 ++ t315)).bind fun t321 => (phaetonlaw01_BitsParts.j1 kj5 l0 l1 t262 y269 (!t321))) else (none)))) else (none))))))))) = some r := by first | (rw [hy278]; with_reducible exact H) | (have H2_ := (Option.bind_some _ _).symm.trans H; rw [hy278]; with_reducible exact H2_) | (have H2_ := (Option.bind_some _ _).symm.trans H; with_reducible exact H2_) | with_reducible exact H | (rw [hy278]; exact H) | exact H
                have Ny278 := Aside0.mk hy278
                clear hy278
                have HC17 := Aside0.mk H
                clear H
                go_upto_region 6 with (first | ((with_reducible refine gate_dst (N := 38) rfl ?_); (try (refine gate_guard (by rfl) ?_; dsimp only)); refine Kd.R_lit (Kd.int .i64) _ 3 ?hg (N := 38) ?hd (xs := ([] : List Int)) (inner := []) (ok := fun _ => True) (okp := fun _ => True) ?hr ?hp (fun _ hk => hk) trivial (Below.refl _ _) (Nat.le_refl _) (by simp) ?_; (case hd => rfl); (case hg => rfl); (case hr => first | (go_simp; done) | (go_simp; rfl)); (case hp => exact (Reps.none _ _)); intro v264 w18 ho19 hb hg_ hnew_; clear hg_ hnew_; (first | rw [← Ny263.out] at ho19 | (simp only [Int.reduceToNat] at ho19; rw [← Ny263.out] at ho19)); have n0_ := Aside0.mk (Kd.R_lower ho19 (below_size (by repeat (first | (with_reducible first | exact HB.out | apply below_alloc | apply pw_below_drewN | apply below_drew1) | exact HB.out)))); have n1_ := Aside0.mk (below_step (by repeat (first | (with_reducible first | exact HB.out | apply below_alloc | apply pw_below_drewN | apply below_drew1) | exact HB.out)) hb); clear HB; have HO265 := n0_; have HB := n1_; clear n0_ n1_; clear hb ho19) | ((with_reducible refine gate_builtin (b := .append) (xs := #[.tmp 38, .tmp 39]) rfl ?_); (try (refine gate_guard (by rfl) ?_; dsimp only)); at_builtin; refine Kd.R_append_rows (Kd.int .i64) (w0 := w) w.heap.size rfl (.tmp 38) (.tmp 39) 22 3 (.int .i64 0) 8 rfl Try.underlying22 info3 rfl (by decide) (by omega) v264 y263 l0 _ _ _ (fun _ => True) (fun _ => False) rfl rfl ?aO ?aR (fun _ _ h => h) (fun _ h => h.elim) ?aF ?aB ?aS ?aL ?_; (case aR => repeat (first | exact (Kd.C_below HR0.out HB.out) | (with_reducible refine Kd.C_alloc ?_ _) | (with_reducible refine Kd.C_drewN ?_ _) | (with_reducible refine Kd.C_drew ?_))); (case aB => exact (by repeat (first | (with_reducible first | exact HB.out | apply below_alloc | apply pw_below_drewN | apply below_drew1) | exact HB.out))); (case aF => exact (fun _ _ => trivial)); (case aO => exact (by (with_reducible repeat (first | apply Kd.R_alloc | apply Kd.R_drewN | apply Kd.R_drew)); exact HO265.out)); (case aS => exact (below_size (by repeat (first | (with_reducible first | exact HB.out | apply below_alloc | apply pw_below_drewN | apply below_drew1) | exact HB.out)))); (case aL => have := LMc13.out; omega); intro v267 w20 ho hb hg hat; rw [← Ny266.out] at ho; have n0_ := Aside0.mk (hb); have n1_ := Aside0.mk (ho); clear HB; clear HO265; have HB := n0_; have HO268 := n1_; clear n0_ n1_; clear ho hb hg hat) | ((with_reducible refine gate_builtin (b := .append) (xs := #[.tmp 40, .tmp 41]) rfl ?_); (try (refine gate_guard (by rfl) ?_; dsimp only)); at_builtin; refine Kd.R_append_rows (Kd.int .i64) (w0 := w) w.heap.size rfl (.tmp 40) (.tmp 41) 22 3 (.int .i64 0) 8 rfl Try.underlying22 info3 rfl (by decide) (by omega) v267 y266 l1 _ _ _ (fun _ => True) (fun _ => False) rfl rfl ?aO ?aR (fun _ _ h => h) (fun _ h => h.elim) ?aF ?aB ?aS ?aL ?_; (case aR => repeat (first | exact (Kd.C_below HR1.out HB.out) | (with_reducible refine Kd.C_alloc ?_ _) | (with_reducible refine Kd.C_drewN ?_ _) | (with_reducible refine Kd.C_drew ?_))); (case aB => exact (by repeat (first | (with_reducible first | exact HB.out | apply below_alloc | apply pw_below_drewN | apply below_drew1) | exact HB.out))); (case aF => exact (fun _ _ => trivial)); (case aO => exact (by (with_reducible repeat (first | apply Kd.R_alloc | apply Kd.R_drewN | apply Kd.R_drew)); exact HO268.out)); (case aS => exact (below_size (by repeat (first | (with_reducible first | exact HB.out | apply below_alloc | apply pw_below_drewN | apply below_drew1) | exact HB.out)))); (case aL => have := LMc14.out; omega); intro v270 w21 ho hb hg hat; rw [← Ny269.out] at ho; have n0_ := Aside0.mk (hb); have n1_ := Aside0.mk (ho); clear HB; clear HO268; have HB := n0_; have HO271 := n1_; clear n0_ n1_; clear ho hb hg hat) | ((with_reducible refine gate_dst (N := 43) rfl ?_); (try (refine gate_guard (by rfl) ?_; dsimp only)); refine Kd.R_lit (Kd.int .u8) _ 5 ?hg (N := 43) ?hd (xs := ([] : List Int)) (inner := []) (ok := fun _ => True) (okp := fun _ => True) ?hr ?hp (fun _ hk => hk) trivial (Below.refl _ _) (Nat.le_refl _) (by simp) ?_; (case hd => rfl); (case hg => rfl); (case hr => first | (go_simp; done) | (go_simp; rfl)); (case hp => exact (Reps.none _ _)); intro v273 w22 ho23 hb hg_ hnew_; clear hg_ hnew_; (first | rw [← Ny272.out] at ho23 | (simp only [Int.reduceToNat] at ho23; rw [← Ny272.out] at ho23)); have n0_ := Aside0.mk (Kd.R_below (by (with_reducible repeat (first | apply Kd.R_alloc | apply Kd.R_drewN | apply Kd.R_drew)); exact HO271.out) hb); have n1_ := Aside0.mk (Kd.R_lower ho23 (below_size (by repeat (first | (with_reducible first | exact HB.out | apply below_alloc | apply pw_below_drewN | apply below_drew1) | exact HB.out)))); have n2_ := Aside0.mk (below_step (by repeat (first | (with_reducible first | exact HB.out | apply below_alloc | apply pw_below_drewN | apply below_drew1) | exact HB.out)) hb); clear HO271; clear HB; have HO271 := n0_; have HO274 := n1_; have HB := n2_; clear n0_ n1_ n2_; clear hb ho23) | ((with_reducible refine gate_builtin (b := .append) (xs := #[.tmp 43, .tmp 44]) rfl ?_); (try (refine gate_guard (by rfl) ?_; dsimp only)); at_builtin; refine Kd.R_append_rows (Kd.int .u8) (w0 := w) w.heap.size rfl (.tmp 43) (.tmp 44) 23 5 (.int .u8 0) 1 rfl Try.underlying23 info5 rfl (by decide) (by omega) v273 y272 l2 _ _ _ (fun _ => True) (fun _ => False) rfl rfl ?aO ?aR (fun _ _ h => h) (fun _ h => h.elim) ?aF ?aB ?aS ?aL ?_; (case aR => repeat (first | exact (Kd.C_below HR2.out HB.out) | (with_reducible refine Kd.C_alloc ?_ _) | (with_reducible refine Kd.C_drewN ?_ _) | (with_reducible refine Kd.C_drew ?_))); (case aB => exact (by repeat (first | (with_reducible first | exact HB.out | apply below_alloc | apply pw_below_drewN | apply below_drew1) | exact HB.out))); (case aF => exact (fun _ _ => trivial)); (case aO => exact (by (with_reducible repeat (first | apply Kd.R_alloc | apply Kd.R_drewN | apply Kd.R_drew)); exact HO274.out)); (case aS => exact (below_size (by repeat (first | (with_reducible first | exact HB.out | apply below_alloc | apply pw_below_drewN | apply below_drew1) | exact HB.out)))); (case aL => have := LMc15.out; omega); intro v276 w24 ho hb hg hat; rw [← Ny275.out] at ho; have n0_ := Aside0.mk (Kd.R_over' (by (with_reducible repeat (first | apply Kd.R_alloc | apply Kd.R_drewN | apply Kd.R_drew)); exact HO271.out) (Kd.R_typed (by (with_reducible repeat (first | apply Kd.R_alloc | apply Kd.R_drewN | apply Kd.R_drew)); exact HO274.out)) (by decide) hg); have n1_ := Aside0.mk (hb); have n2_ := Aside0.mk (ho); clear HO271; clear HB; clear HO274; have HO271 := n0_; have HB := n1_; have HO277 := n2_; clear n0_ n1_ n2_; clear ho hb hg hat) | ((with_reducible refine gate_builtin (b := .append) (xs := #[.tmp 45, .tmp 46]) rfl ?_); (try (refine gate_guard (by rfl) ?_; dsimp only)); at_builtin; refine Kd.R_append_rows (Kd.int .u8) (w0 := w) w.heap.size rfl (.tmp 45) (.tmp 46) 23 5 (.int .u8 0) 1 rfl Try.underlying23 info5 rfl (by decide) (by omega) v276 y275 l3 _ _ _ (fun _ => True) (fun _ => False) rfl rfl ?aO ?aR (fun _ _ h => h) (fun _ h => h.elim) ?aF ?aB ?aS ?aL ?_; (case aR => repeat (first | exact (Kd.C_below HR3.out HB.out) | (with_reducible refine Kd.C_alloc ?_ _) | (with_reducible refine Kd.C_drewN ?_ _) | (with_reducible refine Kd.C_drew ?_))); (case aB => exact (by repeat (first | (with_reducible first | exact HB.out | apply below_alloc | apply pw_below_drewN | apply below_drew1) | exact HB.out))); (case aF => exact (fun _ _ => trivial)); (case aO => exact (by (with_reducible repeat (first | apply Kd.R_alloc | apply Kd.R_drewN | apply Kd.R_drew)); exact HO277.out)); (case aS => exact (below_size (by repeat (first | (with_reducible first | exact HB.out | apply below_alloc | apply pw_below_drewN | apply below_drew1) | exact HB.out)))); (case aL => have := LMc16.out; omega); intro v279 w25 ho hb hg hat; rw [← Ny278.out] at ho; have n0_ := Aside0.mk (Kd.R_over' (by (with_reducible repeat (first | apply Kd.R_alloc | apply Kd.R_drewN | apply Kd.R_drew)); exact HO271.out) (Kd.R_typed (by (with_reducible repeat (first | apply Kd.R_alloc | apply Kd.R_drewN | apply Kd.R_drew)); exact HO277.out)) (by decide) hg); have n1_ := Aside0.mk (hb); have n2_ := Aside0.mk (ho); clear HO271; clear HB; clear HO277; have HO271 := n0_; have HB := n1_; have HO280 := n2_; clear n0_ n1_ n2_; clear ho hb hg hat))
                (try simp only [Act.put, List.setIfInBounds_toArray, List.set_cons_zero, List.set_cons_succ])
                go_cut [69] (fun v69 wc => ∃ (kq : Nat) (x69_16 : Bool), v69 = .bool x69_16 ∧ Aside0 (phaetonlaw01_BitsParts.j1 kq l0 l1 t262 y269 x69_16 = some r) ∧ Aside0 (kq ≤ kj5) ∧ Aside0 (Kd.R (Kd.int .i64) 3 wc w.heap.size (fun _ => True) v270 y269) ∧ Aside0 (Below w.heap.size w wc))
                case first =>
                  have H := HC17.out
                  clear HC17
                  replace H := Option.bind_eq_some_iff.mp H
                  obtain ⟨t281, A260, H⟩ := H
                  replace H : ((bits_Right.f kj5 l0).bind fun t282 => (if t282 = true then ((bits_Right.f kj5 l1).bind fun t283 => (if (t281 != t283) = true then (phaetonlaw01_BitsParts.j1 kj5 l0 l1 t262 y269 true) else ((bits_Spread.f y278).bind fun t284 => ((some (([] : List Int) : List Int)).bind fun y287 => ((bits_Spread.f l2).bind fun t290 => (if y287.length + t290.length < 17592186044416 then ((some (y287 ++ t290 : List Int)).bind fun y293 => ((bits_Spread.f l3).bind fun t296 => (if y293.length + t296.length < 17592186044416 then ((phaetonref01_Same.f kj5 t284 (y293 ++ t296)).bind fun t302 => (phaetonlaw01_BitsParts.j1 kj5 l0 l1 t262 y269 (!t302))) else (none)))) else (none))))))) else (if (t281 != false) = true then (phaetonlaw01_BitsParts.j1 kj5 l0 l1 t262 y269 true) else ((bits_Spread.f y278).bind fun t303 => ((some (([] : List Int) : List Int)).bind fun y306 => ((bits_Spread.f l2).bind fun t309 => (if y306.length + t309.length < 17592186044416 then ((some (y306 ++ t309 : List Int)).bind fun y312 => ((bits_Spread.f l3).bind fun t315 => (if y312.length + t315.length < 17592186044416 then ((phaetonref01_Same.f kj5 t303 (y312 ++ t315)).bind fun t321 => (phaetonlaw01_BitsParts.j1 kj5 l0 l1 t262 y269 (!t321))) else (none)))) else (none)))))))) = some r := H
                  have A26 := Aside0.mk A260
                  clear A260
                  replace H := Option.bind_eq_some_iff.mp H
                  obtain ⟨t282, A270, H⟩ := H
                  replace H : (if t282 = true then ((bits_Right.f kj5 l1).bind fun t283 => (if (t281 != t283) = true then (phaetonlaw01_BitsParts.j1 kj5 l0 l1 t262 y269 true) else ((bits_Spread.f y278).bind fun t284 => ((some (([] : List Int) : List Int)).bind fun y287 => ((bits_Spread.f l2).bind fun t290 => (if y287.length + t290.length < 17592186044416 then ((some (y287 ++ t290 : List Int)).bind fun y293 => ((bits_Spread.f l3).bind fun t296 => (if y293.length + t296.length < 17592186044416 then ((phaetonref01_Same.f kj5 t284 (y293 ++ t296)).bind fun t302 => (phaetonlaw01_BitsParts.j1 kj5 l0 l1 t262 y269 (!t302))) else (none)))) else (none))))))) else (if (t281 != false) = true then (phaetonlaw01_BitsParts.j1 kj5 l0 l1 t262 y269 true) else ((bits_Spread.f y278).bind fun t303 => ((some (([] : List Int) : List Int)).bind fun y306 => ((bits_Spread.f l2).bind fun t309 => (if y306.length + t309.length < 17592186044416 then ((some (y306 ++ t309 : List Int)).bind fun y312 => ((bits_Spread.f l3).bind fun t315 => (if y312.length + t315.length < 17592186044416 then ((phaetonref01_Same.f kj5 t303 (y312 ++ t315)).bind fun t321 => (phaetonlaw01_BitsParts.j1 kj5 l0 l1 t262 y269 (!t321))) else (none)))) else (none))))))) = some r := H
                  have A27 := Aside0.mk A270
                  clear A270
                  by_cases c28 : t282 = true
                  · subst c28
                    have H1 : ((bits_Right.f kj5 l1).bind fun t283 => (if (t281 != t283) = true then (phaetonlaw01_BitsParts.j1 kj5 l0 l1 t262 y269 true) else ((bits_Spread.f y278).bind fun t284 => ((some (([] : List Int) : List Int)).bind fun y287 => ((bits_Spread.f l2).bind fun t290 => (if y287.length + t290.length < 17592186044416 then ((some (y287 ++ t290 : List Int)).bind fun y293 => ((bits_Spread.f l3).bind fun t296 => (if y293.length + t296.length < 17592186044416 then ((phaetonref01_Same.f kj5 t284 (y293 ++ t296)).bind fun t302 => (phaetonlaw01_BitsParts.j1 kj5 l0 l1 t262 y269 (!t302))) else (none)))) else (none))))))) = some r := by rw [if_pos rfl] at H; exact H
                    clear H
                    have H := H1
                    clear H1
                    replace H := Option.bind_eq_some_iff.mp H
                    obtain ⟨t283, A290, H⟩ := H
                    replace H : (if (t281 != t283) = true then (phaetonlaw01_BitsParts.j1 kj5 l0 l1 t262 y269 true) else ((bits_Spread.f y278).bind fun t284 => ((some (([] : List Int) : List Int)).bind fun y287 => ((bits_Spread.f l2).bind fun t290 => (if y287.length + t290.length < 17592186044416 then ((some (y287 ++ t290 : List Int)).bind fun y293 => ((bits_Spread.f l3).bind fun t296 => (if y293.length + t296.length < 17592186044416 then ((phaetonref01_Same.f kj5 t284 (y293 ++ t296)).bind fun t302 => (phaetonlaw01_BitsParts.j1 kj5 l0 l1 t262 y269 (!t302))) else (none)))) else (none)))))) = some r := H
                    have A29 := Aside0.mk A290
                    clear A290
                    by_cases c30 : (t281 != t283) = true
                    · rw [if_pos c30] at H
                      have c30b0 : (t281 != t283) = true := c30
                      (try (have c30b1 : decide (t281 = t283) = false := by simpa using c30))
                      (try (have c30b2 : (t281 == t283) = false := by simpa using c30))
                      (try (have c30b3 : ¬ (t281 = t283) := by simpa using c30))
                      clear c30
                      (first | rw [c30b0] | (simp only [i64_w, i32_w]; rw [c30b0]) | skip)
                      have H' := Aside0.mk H
                      clear H
                      obtain ⟨Ao31, co31, eo31⟩ := Kd.R_slice HO271.out
                      subst eo31
                      go_wp2_with (first | ((with_reducible refine gate_callee (f := 17) rfl ?_); refine goesL_ (some 49) rfl rfl Try.func17 (by kernel_rfl) rfl #[.slice Ao31 y269.length co31] rfl (by (try simp only [List.map_toArray, List.map_cons, List.map_nil]); first | done | rfl | (simp only [List.length_drop, List.length_take]; rfl)) ?_; (with_reducible refine (bits_Right.calls kj5 _ _ y269 t281 _ ?side1 ?side2 A26.out).mono ?_); (case side1 => repeat (first | exact (Kd.R_reads' HO271.out).2.2 | (with_reducible refine Kd.C_alloc ?_ _) | (with_reducible refine Kd.C_drewN ?_ _) | (with_reducible refine Kd.C_drew ?_))); (case side2 => exact (Kd.R_reads' HO271.out).2.1); rintro e w' ⟨rfl, ⟨nd, rfl⟩⟩; refine ⟨_, rfl, ?_⟩) | ((with_reducible refine gate_callee (f := 17) rfl ?_); refine goesL_ (some 51) rfl rfl Try.func17 (by kernel_rfl) rfl #[.slice A0 l0.length c0] rfl (by (try simp only [List.map_toArray, List.map_cons, List.map_nil]); first | done | rfl | (simp only [List.length_drop, List.length_take]; rfl)) ?_; (with_reducible refine (bits_Right.calls kj5 _ _ l0 true _ ?side1 ?side2 A27.out).mono ?_); (case side1 => repeat (first | exact (Kd.C_below HR0.out (by repeat (first | (with_reducible first | exact HB.out | apply below_alloc | apply pw_below_drewN | apply below_drew1) | exact HB.out))) | (with_reducible refine Kd.C_alloc ?_ _) | (with_reducible refine Kd.C_drewN ?_ _) | (with_reducible refine Kd.C_drew ?_))); (case side2 => exact HC0.out); rintro e w' ⟨rfl, ⟨nd, rfl⟩⟩; refine ⟨_, rfl, ?_⟩) | (go_at_call 17; (with_reducible refine (bits_Right.calls kj5 _ _ l1 t283 _ ?side1 ?side2 A29.out).mono ?_); (case side1 => repeat (first | exact (Kd.C_below HR1.out (by repeat (first | (with_reducible first | exact HB.out | apply below_alloc | apply pw_below_drewN | apply below_drew1) | exact HB.out))) | (with_reducible refine Kd.C_alloc ?_ _) | (with_reducible refine Kd.C_drewN ?_ _) | (with_reducible refine Kd.C_drew ?_))); (case side2 => exact HC1.out); rintro e w' ⟨rfl, ⟨nd, rfl⟩⟩))
                      go_meet
                      case rel => exact ⟨_, (true), (by first | rfl | (simp; done) | (simp [*]; done)), H', ⟨by have := HJ5.out; first | omega | exact Nat.le_refl _⟩, ⟨by (with_reducible repeat (first | apply Kd.R_alloc | apply Kd.R_drewN | apply Kd.R_drew)); exact HO271.out⟩, ⟨by repeat (first | (with_reducible first | exact HB.out | apply below_alloc | apply pw_below_drewN | apply below_drew1) | exact HB.out)⟩⟩
                    · rw [if_neg c30] at H
                      have c30b0 : (t281 != t283) = false := by simpa using c30
                      (try (have c30b1 : decide (t281 = t283) = true := by simpa using c30))
                      (try (have c30b2 : (t281 == t283) = true := by simpa using c30))
                      clear c30
                      (first | rw [c30b0] | (simp only [i64_w, i32_w]; rw [c30b0]) | skip)
                      replace H := Option.bind_eq_some_iff.mp H
                      obtain ⟨t284, A320, H⟩ := H
                      replace H : ((some (([] : List Int) : List Int)).bind fun y287 => ((bits_Spread.f l2).bind fun t290 => (if y287.length + t290.length < 17592186044416 then ((some (y287 ++ t290 : List Int)).bind fun y293 => ((bits_Spread.f l3).bind fun t296 => (if y293.length + t296.length < 17592186044416 then ((phaetonref01_Same.f kj5 t284 (y293 ++ t296)).bind fun t302 => (phaetonlaw01_BitsParts.j1 kj5 l0 l1 t262 y269 (!t302))) else (none)))) else (none)))) = some r := H
                      have A32 := Aside0.mk A320
                      clear A320
                      obtain ⟨y287, hy287⟩ : ∃ y_ : List Int, y_ = (([] : List Int)) := ⟨_, rfl⟩
                      replace H : ((bits_Spread.f l2).bind fun t290 => (if y287.length + t290.length < 17592186044416 then ((some (y287 ++ t290 : List Int)).bind fun y293 => ((bits_Spread.f l3).bind fun t296 => (if y293.length + t296.length < 17592186044416 then ((phaetonref01_Same.f kj5 t284 (y293 ++ t296)).bind fun t302 => (phaetonlaw01_BitsParts.j1 kj5 l0 l1 t262 y269 (!t302))) else (none)))) else (none))) = some r := by first | (rw [hy287]; with_reducible exact H) | (have H2_ := (Option.bind_some _ _).symm.trans H; rw [hy287]; with_reducible exact H2_) | (have H2_ := (Option.bind_some _ _).symm.trans H; with_reducible exact H2_) | with_reducible exact H | (rw [hy287]; exact H) | exact H
                      have Ny287 := Aside0.mk hy287
                      clear hy287
                      replace H := Option.bind_eq_some_iff.mp H
                      obtain ⟨t290, A330, H⟩ := H
                      replace H : (if y287.length + t290.length < 17592186044416 then ((some (y287 ++ t290 : List Int)).bind fun y293 => ((bits_Spread.f l3).bind fun t296 => (if y293.length + t296.length < 17592186044416 then ((phaetonref01_Same.f kj5 t284 (y293 ++ t296)).bind fun t302 => (phaetonlaw01_BitsParts.j1 kj5 l0 l1 t262 y269 (!t302))) else (none)))) else (none)) = some r := H
                      have A33 := Aside0.mk A330
                      clear A330
                      by_cases c34 : y287.length + t290.length < 17592186044416
                      · rw [if_pos c34] at H
                        have LMc34 := Aside0.mk c34
                        clear c34
                        obtain ⟨y293, hy293⟩ : ∃ y_ : List Int, y_ = (y287 ++ t290) := ⟨_, rfl⟩
                        replace H : ((bits_Spread.f l3).bind fun t296 => (if y293.length + t296.length < 17592186044416 then ((phaetonref01_Same.f kj5 t284 (y293 ++ t296)).bind fun t302 => (phaetonlaw01_BitsParts.j1 kj5 l0 l1 t262 y269 (!t302))) else (none))) = some r := by first | (rw [hy293]; with_reducible exact H) | (have H2_ := (Option.bind_some _ _).symm.trans H; rw [hy293]; with_reducible exact H2_) | (have H2_ := (Option.bind_some _ _).symm.trans H; with_reducible exact H2_) | with_reducible exact H | (rw [hy293]; exact H) | exact H
                        have Ny293 := Aside0.mk hy293
                        clear hy293
                        replace H := Option.bind_eq_some_iff.mp H
                        obtain ⟨t296, A350, H⟩ := H
                        replace H : (if y293.length + t296.length < 17592186044416 then ((phaetonref01_Same.f kj5 t284 (y293 ++ t296)).bind fun t302 => (phaetonlaw01_BitsParts.j1 kj5 l0 l1 t262 y269 (!t302))) else (none)) = some r := H
                        have A35 := Aside0.mk A350
                        clear A350
                        by_cases c36 : y293.length + t296.length < 17592186044416
                        · rw [if_pos c36] at H
                          have LMc36 := Aside0.mk c36
                          clear c36
                          obtain ⟨y299, hy299⟩ : ∃ y_ : List Int, y_ = (y293 ++ t296) := ⟨_, rfl⟩
                          replace H : ((phaetonref01_Same.f kj5 t284 y299).bind fun t302 => (phaetonlaw01_BitsParts.j1 kj5 l0 l1 t262 y269 (!t302))) = some r := by first | (rw [hy299]; with_reducible exact H) | (have H2_ := (Option.bind_some _ _).symm.trans H; rw [hy299]; with_reducible exact H2_) | (have H2_ := (Option.bind_some _ _).symm.trans H; with_reducible exact H2_) | with_reducible exact H | (rw [hy299]; exact H) | exact H
                          have Ny299 := Aside0.mk hy299
                          clear hy299
                          replace H := Option.bind_eq_some_iff.mp H
                          obtain ⟨t302, A370, H⟩ := H
                          replace H : (phaetonlaw01_BitsParts.j1 kj5 l0 l1 t262 y269 (!t302)) = some r := H
                          have A37 := Aside0.mk A370
                          clear A370
                          have H' := Aside0.mk H
                          clear H
                          obtain ⟨Ao38, co38, eo38⟩ := Kd.R_slice HO271.out
                          subst eo38
                          go_wp2_with (first | ((with_reducible refine gate_callee (f := 17) rfl ?_); refine goesL_ (some 49) rfl rfl Try.func17 (by kernel_rfl) rfl #[.slice Ao38 y269.length co38] rfl (by (try simp only [List.map_toArray, List.map_cons, List.map_nil]); first | done | rfl | (simp only [List.length_drop, List.length_take]; rfl)) ?_; (with_reducible refine (bits_Right.calls kj5 _ _ y269 t281 _ ?side1 ?side2 A26.out).mono ?_); (case side1 => repeat (first | exact (Kd.R_reads' HO271.out).2.2 | (with_reducible refine Kd.C_alloc ?_ _) | (with_reducible refine Kd.C_drewN ?_ _) | (with_reducible refine Kd.C_drew ?_))); (case side2 => exact (Kd.R_reads' HO271.out).2.1); rintro e w' ⟨rfl, ⟨nd, rfl⟩⟩; refine ⟨_, rfl, ?_⟩) | ((with_reducible refine gate_callee (f := 17) rfl ?_); refine goesL_ (some 51) rfl rfl Try.func17 (by kernel_rfl) rfl #[.slice A0 l0.length c0] rfl (by (try simp only [List.map_toArray, List.map_cons, List.map_nil]); first | done | rfl | (simp only [List.length_drop, List.length_take]; rfl)) ?_; (with_reducible refine (bits_Right.calls kj5 _ _ l0 true _ ?side1 ?side2 A27.out).mono ?_); (case side1 => repeat (first | exact (Kd.C_below HR0.out (by repeat (first | (with_reducible first | exact HB.out | apply below_alloc | apply pw_below_drewN | apply below_drew1) | exact HB.out))) | (with_reducible refine Kd.C_alloc ?_ _) | (with_reducible refine Kd.C_drewN ?_ _) | (with_reducible refine Kd.C_drew ?_))); (case side2 => exact HC0.out); rintro e w' ⟨rfl, ⟨nd, rfl⟩⟩; refine ⟨_, rfl, ?_⟩) | (go_at_call 17; (with_reducible refine (bits_Right.calls kj5 _ _ l1 t283 _ ?side1 ?side2 A29.out).mono ?_); (case side1 => repeat (first | exact (Kd.C_below HR1.out (by repeat (first | (with_reducible first | exact HB.out | apply below_alloc | apply pw_below_drewN | apply below_drew1) | exact HB.out))) | (with_reducible refine Kd.C_alloc ?_ _) | (with_reducible refine Kd.C_drewN ?_ _) | (with_reducible refine Kd.C_drew ?_))); (case side2 => exact HC1.out); rintro e w' ⟨rfl, ⟨nd, rfl⟩⟩; obtain ⟨Ao39, co39, eo39⟩ := Kd.R_slice HO280.out; subst eo39) | (go_at_call 21; (with_reducible refine (bits_Spread.calls _ _ y278 t284 _ ?side1 ?side2 A32.out).mono ?_); (case side1 => repeat (first | exact (Kd.R_reads' HO280.out).2.2 | (with_reducible refine Kd.C_alloc ?_ _) | (with_reducible refine Kd.C_drewN ?_ _) | (with_reducible refine Kd.C_drew ?_))); (case side2 => exact (Kd.R_reads' HO280.out).2.1); rintro e w40 ⟨v285, rfl, ho0, hb⟩; have n0_ := Aside0.mk (Kd.R_elder' (by (with_reducible repeat (first | apply Kd.R_alloc | apply Kd.R_drewN | apply Kd.R_drew)); exact HO271.out) (Kd.R_base ho0) hb); have n1_ := Aside0.mk (Kd.R_below (by (with_reducible repeat (first | apply Kd.R_alloc | apply Kd.R_drewN | apply Kd.R_drew)); exact HO280.out) hb); have n2_ := Aside0.mk (Kd.R_lower (Kd.R_new' ho0 (Kd.R_lt (by (with_reducible repeat (first | apply Kd.R_alloc | apply Kd.R_drewN | apply Kd.R_drew)); exact HO271.out))) (below_size (by repeat (first | (with_reducible first | exact HB.out | apply below_alloc | apply pw_below_drewN | apply below_drew1) | exact HB.out)))); have n3_ := Aside0.mk (below_step (by repeat (first | (with_reducible first | exact HB.out | apply below_alloc | apply pw_below_drewN | apply below_drew1) | exact HB.out)) hb); clear HO271; clear HO280; clear HB; have HO271 := n0_; have HO280 := n1_; have HO286 := n2_; have HB := n3_; clear n0_ n1_ n2_ n3_; (try clear hb); (try clear hb2); (try clear hk); (try clear hi); (try clear ho0)) | ((with_reducible refine gate_dst (N := 60) rfl ?_); (try (refine gate_guard (by rfl) ?_; dsimp only)); refine Kd.R_lit (Kd.int .i64) _ 3 ?hg (N := 60) ?hd (xs := ([] : List Int)) (inner := []) (ok := fun _ => True) (okp := fun _ => True) ?hr ?hp (fun _ hk => hk) trivial (Below.refl _ _) (Nat.le_refl _) (by simp) ?_; (case hd => rfl); (case hg => rfl); (case hr => first | (go_simp; done) | (go_simp; rfl)); (case hp => exact (Reps.none _ _)); intro v288 w41 ho42 hb hg_ hnew_; clear hg_ hnew_; (first | rw [← Ny287.out] at ho42 | (simp only [Int.reduceToNat] at ho42; rw [← Ny287.out] at ho42)); have n0_ := Aside0.mk (Kd.R_elder' (by (with_reducible repeat (first | apply Kd.R_alloc | apply Kd.R_drewN | apply Kd.R_drew)); exact HO271.out) (Kd.R_base ho42) hb); have n1_ := Aside0.mk (Kd.R_below (by (with_reducible repeat (first | apply Kd.R_alloc | apply Kd.R_drewN | apply Kd.R_drew)); exact HO280.out) hb); have n2_ := Aside0.mk (Kd.R_elder' (by (with_reducible repeat (first | apply Kd.R_alloc | apply Kd.R_drewN | apply Kd.R_drew)); exact HO286.out) (Kd.R_base ho42) hb); have n3_ := Aside0.mk (Kd.R_lower (Kd.R_new' (Kd.R_new' ho42 (Kd.R_lt (by (with_reducible repeat (first | apply Kd.R_alloc | apply Kd.R_drewN | apply Kd.R_drew)); exact HO271.out))) (Kd.R_lt (by (with_reducible repeat (first | apply Kd.R_alloc | apply Kd.R_drewN | apply Kd.R_drew)); exact HO286.out))) (below_size (by repeat (first | (with_reducible first | exact HB.out | apply below_alloc | apply pw_below_drewN | apply below_drew1) | exact HB.out)))); have n4_ := Aside0.mk (below_step (by repeat (first | (with_reducible first | exact HB.out | apply below_alloc | apply pw_below_drewN | apply below_drew1) | exact HB.out)) hb); clear HO271; clear HO280; clear HO286; clear HB; have HO271 := n0_; have HO280 := n1_; have HO286 := n2_; have HO289 := n3_; have HB := n4_; clear n0_ n1_ n2_ n3_ n4_; clear hb ho42) | (go_at_call 21; (with_reducible refine (bits_Spread.calls _ _ l2 t290 _ ?side1 ?side2 A33.out).mono ?_); (case side1 => repeat (first | exact (Kd.C_below HR2.out HB.out) | (with_reducible refine Kd.C_alloc ?_ _) | (with_reducible refine Kd.C_drewN ?_ _) | (with_reducible refine Kd.C_drew ?_))); (case side2 => exact HC2.out); rintro e w43 ⟨v291, rfl, ho0, hb⟩; have n0_ := Aside0.mk (Kd.R_elder' (by (with_reducible repeat (first | apply Kd.R_alloc | apply Kd.R_drewN | apply Kd.R_drew)); exact HO271.out) (Kd.R_base ho0) hb); have n1_ := Aside0.mk (Kd.R_below (by (with_reducible repeat (first | apply Kd.R_alloc | apply Kd.R_drewN | apply Kd.R_drew)); exact HO280.out) hb); have n2_ := Aside0.mk (Kd.R_elder' (by (with_reducible repeat (first | apply Kd.R_alloc | apply Kd.R_drewN | apply Kd.R_drew)); exact HO286.out) (Kd.R_base ho0) hb); have n3_ := Aside0.mk (Kd.R_elder' (by (with_reducible repeat (first | apply Kd.R_alloc | apply Kd.R_drewN | apply Kd.R_drew)); exact HO289.out) (Kd.R_base ho0) hb); have n4_ := Aside0.mk (Kd.R_lower (Kd.R_new' (Kd.R_new' (Kd.R_new' ho0 (Kd.R_lt (by (with_reducible repeat (first | apply Kd.R_alloc | apply Kd.R_drewN | apply Kd.R_drew)); exact HO271.out))) (Kd.R_lt (by (with_reducible repeat (first | apply Kd.R_alloc | apply Kd.R_drewN | apply Kd.R_drew)); exact HO286.out))) (Kd.R_lt (by (with_reducible repeat (first | apply Kd.R_alloc | apply Kd.R_drewN | apply Kd.R_drew)); exact HO289.out))) (below_size (by repeat (first | (with_reducible first | exact HB.out | apply below_alloc | apply pw_below_drewN | apply below_drew1) | exact HB.out)))); have n5_ := Aside0.mk (below_step (by repeat (first | (with_reducible first | exact HB.out | apply below_alloc | apply pw_below_drewN | apply below_drew1) | exact HB.out)) hb); clear HO271; clear HO280; clear HO286; clear HO289; clear HB; have HO271 := n0_; have HO280 := n1_; have HO286 := n2_; have HO289 := n3_; have HO292 := n4_; have HB := n5_; clear n0_ n1_ n2_ n3_ n4_ n5_; (try clear hb); (try clear hb2); (try clear hk); (try clear hi); (try clear ho0); obtain ⟨Ao45, co45, eo45⟩ := Kd.R_slice HO292.out; subst eo45) | ((with_reducible refine gate_builtin (b := .append) (xs := #[.tmp 60, .tmp 62]) rfl ?_); (try (refine gate_guard (by rfl) ?_; dsimp only)); at_builtin; refine Kd.R_append_rows (Kd.int .i64) (w0 := w) w.heap.size rfl (.tmp 60) (.tmp 62) 22 3 (.int .i64 0) 8 rfl Try.underlying22 info3 rfl (by decide) (by omega) v288 y287 t290 _ _ _ (fun k_ => some k_ ≠ (.slice Ao38 y269.length co38 : Value).ownBlock ∧ some k_ ≠ (v285 : Value).ownBlock ∧ some k_ ≠ (.slice Ao45 t290.length co45 : Value).ownBlock) (fun _ => False) rfl rfl ?aO ?aR (fun _ _ h => h) (fun _ h => h.elim) ?aF ?aB ?aS ?aL ?_; (case aR => repeat (first | exact (Kd.R_reads' HO292.out).2.2 | (with_reducible refine Kd.C_alloc ?_ _) | (with_reducible refine Kd.C_drewN ?_ _) | (with_reducible refine Kd.C_drew ?_))); (case aB => exact (by repeat (first | (with_reducible first | exact HB.out | apply below_alloc | apply pw_below_drewN | apply below_drew1) | exact HB.out))); (case aF => exact (fun k_ hk => ⟨Kd.fresh' (Kd.R_lt (by (with_reducible repeat (first | apply Kd.R_alloc | apply Kd.R_drewN | apply Kd.R_drew)); exact HO271.out)) k_ hk, Kd.fresh' (Kd.R_lt (by (with_reducible repeat (first | apply Kd.R_alloc | apply Kd.R_drewN | apply Kd.R_drew)); exact HO286.out)) k_ hk, Kd.fresh' (Kd.R_lt (by (with_reducible repeat (first | apply Kd.R_alloc | apply Kd.R_drewN | apply Kd.R_drew)); exact HO292.out)) k_ hk⟩)); (case aO => exact (by (with_reducible repeat (first | apply Kd.R_alloc | apply Kd.R_drewN | apply Kd.R_drew)); exact Kd.R_mono HO289.out (fun _ hk => ⟨hk.1.1.2, ⟨hk.1.2, hk.2⟩⟩))); (case aS => exact (below_size (by repeat (first | (with_reducible first | exact HB.out | apply below_alloc | apply pw_below_drewN | apply below_drew1) | exact HB.out)))); (case aL => have := LMc34.out; omega); intro v294 w44 ho hb hg hat; rw [← Ny293.out] at ho; have n0_ := Aside0.mk (Kd.R_after (ok := (fun k_ => some k_ ≠ (v285 : Value).ownBlock ∧ some k_ ≠ (.slice Ao45 t290.length co45 : Value).ownBlock)) (by (with_reducible repeat (first | apply Kd.R_alloc | apply Kd.R_drewN | apply Kd.R_drew)); exact Kd.R_mono HO271.out (fun _ hk => ⟨⟨hk.1.1.2, hk.2⟩, hk.1.2⟩)) hg hat); have n1_ := Aside0.mk (Kd.R_over' (by (with_reducible repeat (first | apply Kd.R_alloc | apply Kd.R_drewN | apply Kd.R_drew)); exact HO280.out) (Kd.R_typed (by (with_reducible repeat (first | apply Kd.R_alloc | apply Kd.R_drewN | apply Kd.R_drew)); exact HO289.out)) (by decide) hg); have n2_ := Aside0.mk (Kd.R_after (ok := (fun k_ => some k_ ≠ (.slice Ao38 y269.length co38 : Value).ownBlock ∧ some k_ ≠ (.slice Ao45 t290.length co45 : Value).ownBlock)) (by (with_reducible repeat (first | apply Kd.R_alloc | apply Kd.R_drewN | apply Kd.R_drew)); exact Kd.R_mono HO286.out (fun _ hk => ⟨⟨hk.1.1.2, hk.2⟩, hk.1.2⟩)) hg hat); have n3_ := Aside0.mk (Kd.R_after (ok := (fun k_ => some k_ ≠ (.slice Ao38 y269.length co38 : Value).ownBlock ∧ some k_ ≠ (v285 : Value).ownBlock)) (by (with_reducible repeat (first | apply Kd.R_alloc | apply Kd.R_drewN | apply Kd.R_drew)); exact Kd.R_mono HO292.out (fun _ hk => ⟨⟨hk.1.1.2, hk.1.2⟩, hk.2⟩)) hg hat); have n4_ := Aside0.mk (hb); have n5_ := Aside0.mk (ho); clear HO271; clear HO280; clear HO286; clear HO292; clear HB; clear HO289; have HO271 := n0_; have HO280 := n1_; have HO286 := n2_; have HO292 := n3_; have HB := n4_; have HO295 := n5_; clear n0_ n1_ n2_ n3_ n4_ n5_; clear ho hb hg hat) | (go_at_call 21; (with_reducible refine (bits_Spread.calls _ _ l3 t296 _ ?side1 ?side2 A35.out).mono ?_); (case side1 => repeat (first | exact (Kd.C_below HR3.out HB.out) | (with_reducible refine Kd.C_alloc ?_ _) | (with_reducible refine Kd.C_drewN ?_ _) | (with_reducible refine Kd.C_drew ?_))); (case side2 => exact HC3.out); rintro e w46 ⟨v297, rfl, ho0, hb⟩; have n0_ := Aside0.mk (Kd.R_elder' (by (with_reducible repeat (first | apply Kd.R_alloc | apply Kd.R_drewN | apply Kd.R_drew)); exact HO271.out) (Kd.R_base ho0) hb); have n1_ := Aside0.mk (Kd.R_below (by (with_reducible repeat (first | apply Kd.R_alloc | apply Kd.R_drewN | apply Kd.R_drew)); exact HO280.out) hb); have n2_ := Aside0.mk (Kd.R_elder' (by (with_reducible repeat (first | apply Kd.R_alloc | apply Kd.R_drewN | apply Kd.R_drew)); exact HO286.out) (Kd.R_base ho0) hb); have n3_ := Aside0.mk (Kd.R_elder' (by (with_reducible repeat (first | apply Kd.R_alloc | apply Kd.R_drewN | apply Kd.R_drew)); exact HO292.out) (Kd.R_base ho0) hb); have n4_ := Aside0.mk (Kd.R_elder' (by (with_reducible repeat (first | apply Kd.R_alloc | apply Kd.R_drewN | apply Kd.R_drew)); exact HO295.out) (Kd.R_base ho0) hb); have n5_ := Aside0.mk (Kd.R_lower (Kd.R_new' (Kd.R_new' (Kd.R_new' (Kd.R_new' ho0 (Kd.R_lt (by (with_reducible repeat (first | apply Kd.R_alloc | apply Kd.R_drewN | apply Kd.R_drew)); exact HO271.out))) (Kd.R_lt (by (with_reducible repeat (first | apply Kd.R_alloc | apply Kd.R_drewN | apply Kd.R_drew)); exact HO286.out))) (Kd.R_lt (by (with_reducible repeat (first | apply Kd.R_alloc | apply Kd.R_drewN | apply Kd.R_drew)); exact HO292.out))) (Kd.R_lt (by (with_reducible repeat (first | apply Kd.R_alloc | apply Kd.R_drewN | apply Kd.R_drew)); exact HO295.out))) (below_size (by repeat (first | (with_reducible first | exact HB.out | apply below_alloc | apply pw_below_drewN | apply below_drew1) | exact HB.out)))); have n6_ := Aside0.mk (below_step (by repeat (first | (with_reducible first | exact HB.out | apply below_alloc | apply pw_below_drewN | apply below_drew1) | exact HB.out)) hb); clear HO271; clear HO280; clear HO286; clear HO292; clear HO295; clear HB; have HO271 := n0_; have HO280 := n1_; have HO286 := n2_; have HO292 := n3_; have HO295 := n4_; have HO298 := n5_; have HB := n6_; clear n0_ n1_ n2_ n3_ n4_ n5_ n6_; (try clear hb); (try clear hb2); (try clear hk); (try clear hi); (try clear ho0); obtain ⟨Ao48, co48, eo48⟩ := Kd.R_slice HO298.out; subst eo48) | ((with_reducible refine gate_builtin (b := .append) (xs := #[.tmp 63, .tmp 65]) rfl ?_); (try (refine gate_guard (by rfl) ?_; dsimp only)); at_builtin; refine Kd.R_append_rows (Kd.int .i64) (w0 := w) w.heap.size rfl (.tmp 63) (.tmp 65) 22 3 (.int .i64 0) 8 rfl Try.underlying22 info3 rfl (by decide) (by omega) v294 y293 t296 _ _ _ (fun k_ => some k_ ≠ (.slice Ao38 y269.length co38 : Value).ownBlock ∧ some k_ ≠ (v285 : Value).ownBlock ∧ some k_ ≠ (.slice Ao45 t290.length co45 : Value).ownBlock ∧ some k_ ≠ (.slice Ao48 t296.length co48 : Value).ownBlock) (fun _ => False) rfl rfl ?aO ?aR (fun _ _ h => h) (fun _ h => h.elim) ?aF ?aB ?aS ?aL ?_; (case aR => repeat (first | exact (Kd.R_reads' HO298.out).2.2 | (with_reducible refine Kd.C_alloc ?_ _) | (with_reducible refine Kd.C_drewN ?_ _) | (with_reducible refine Kd.C_drew ?_))); (case aB => exact (by repeat (first | (with_reducible first | exact HB.out | apply below_alloc | apply pw_below_drewN | apply below_drew1) | exact HB.out))); (case aF => exact (fun k_ hk => ⟨Kd.fresh' (Kd.R_lt (by (with_reducible repeat (first | apply Kd.R_alloc | apply Kd.R_drewN | apply Kd.R_drew)); exact HO271.out)) k_ hk, Kd.fresh' (Kd.R_lt (by (with_reducible repeat (first | apply Kd.R_alloc | apply Kd.R_drewN | apply Kd.R_drew)); exact HO286.out)) k_ hk, Kd.fresh' (Kd.R_lt (by (with_reducible repeat (first | apply Kd.R_alloc | apply Kd.R_drewN | apply Kd.R_drew)); exact HO292.out)) k_ hk, Kd.fresh' (Kd.R_lt (by (with_reducible repeat (first | apply Kd.R_alloc | apply Kd.R_drewN | apply Kd.R_drew)); exact HO298.out)) k_ hk⟩)); (case aO => exact (by (with_reducible repeat (first | apply Kd.R_alloc | apply Kd.R_drewN | apply Kd.R_drew)); exact Kd.R_mono HO295.out (fun _ hk => ⟨hk.1.1, ⟨hk.1.2.1, ⟨hk.1.2.2, hk.2⟩⟩⟩))); (case aS => exact (below_size (by repeat (first | (with_reducible first | exact HB.out | apply below_alloc | apply pw_below_drewN | apply below_drew1) | exact HB.out)))); (case aL => have := LMc36.out; omega); intro v300 w47 ho hb hg hat; rw [← Ny299.out] at ho; have n0_ := Aside0.mk (Kd.R_after (ok := (fun k_ => some k_ ≠ (v285 : Value).ownBlock ∧ some k_ ≠ (.slice Ao45 t290.length co45 : Value).ownBlock ∧ some k_ ≠ (.slice Ao48 t296.length co48 : Value).ownBlock)) (by (with_reducible repeat (first | apply Kd.R_alloc | apply Kd.R_drewN | apply Kd.R_drew)); exact Kd.R_mono HO271.out (fun _ hk => ⟨⟨hk.1.1.1, ⟨hk.1.1.2, hk.2⟩⟩, hk.1.2⟩)) hg hat); have n1_ := Aside0.mk (Kd.R_over' (by (with_reducible repeat (first | apply Kd.R_alloc | apply Kd.R_drewN | apply Kd.R_drew)); exact HO280.out) (Kd.R_typed (by (with_reducible repeat (first | apply Kd.R_alloc | apply Kd.R_drewN | apply Kd.R_drew)); exact HO295.out)) (by decide) hg); have n2_ := Aside0.mk (Kd.R_after (ok := (fun k_ => some k_ ≠ (.slice Ao38 y269.length co38 : Value).ownBlock ∧ some k_ ≠ (.slice Ao45 t290.length co45 : Value).ownBlock ∧ some k_ ≠ (.slice Ao48 t296.length co48 : Value).ownBlock)) (by (with_reducible repeat (first | apply Kd.R_alloc | apply Kd.R_drewN | apply Kd.R_drew)); exact Kd.R_mono HO286.out (fun _ hk => ⟨⟨hk.1.1.1, ⟨hk.1.1.2, hk.2⟩⟩, hk.1.2⟩)) hg hat); have n3_ := Aside0.mk (Kd.R_after (ok := (fun k_ => some k_ ≠ (.slice Ao38 y269.length co38 : Value).ownBlock ∧ some k_ ≠ (v285 : Value).ownBlock ∧ some k_ ≠ (.slice Ao48 t296.length co48 : Value).ownBlock)) (by (with_reducible repeat (first | apply Kd.R_alloc | apply Kd.R_drewN | apply Kd.R_drew)); exact Kd.R_mono HO292.out (fun _ hk => ⟨⟨hk.1.1.1, ⟨hk.1.1.2, hk.2⟩⟩, hk.1.2⟩)) hg hat); have n4_ := Aside0.mk (Kd.R_after (ok := (fun k_ => some k_ ≠ (.slice Ao38 y269.length co38 : Value).ownBlock ∧ some k_ ≠ (v285 : Value).ownBlock ∧ some k_ ≠ (.slice Ao45 t290.length co45 : Value).ownBlock)) (by (with_reducible repeat (first | apply Kd.R_alloc | apply Kd.R_drewN | apply Kd.R_drew)); exact Kd.R_mono HO298.out (fun _ hk => ⟨⟨hk.1.1.1.2, ⟨hk.1.1.2, hk.1.2⟩⟩, hk.2⟩)) hg hat); have n5_ := Aside0.mk (hb); have n6_ := Aside0.mk (ho); clear HO271; clear HO280; clear HO286; clear HO292; clear HO298; clear HB; clear HO295; have HO271 := n0_; have HO280 := n1_; have HO286 := n2_; have HO292 := n3_; have HO298 := n4_; have HB := n5_; have HO301 := n6_; clear n0_ n1_ n2_ n3_ n4_ n5_ n6_; clear ho hb hg hat; obtain ⟨Ao49, co49, eo49⟩ := Kd.R_slice HO286.out; subst eo49; obtain ⟨Ao50, co50, eo50⟩ := Kd.R_slice HO301.out; subst eo50) | (go_at_call 19; (with_reducible refine (phaetonref01_Same.calls kj5 _ _ t284 _ _ y299 t302 _ ?side1 ?side2 ?side3 ?side4 A37.out).mono ?_); (case side1 => repeat (first | exact (Kd.R_reads' HO286.out).2.2 | (with_reducible refine Kd.C_alloc ?_ _) | (with_reducible refine Kd.C_drewN ?_ _) | (with_reducible refine Kd.C_drew ?_))); (case side2 => exact (Kd.R_reads' HO286.out).2.1); (case side3 => repeat (first | exact (Kd.R_reads' HO301.out).2.2 | (with_reducible refine Kd.C_alloc ?_ _) | (with_reducible refine Kd.C_drewN ?_ _) | (with_reducible refine Kd.C_drew ?_))); (case side4 => exact (Kd.R_reads' HO301.out).2.1); rintro e w' ⟨rfl, ⟨nd, rfl⟩⟩))
                          go_meet
                          case rel => exact ⟨_, (!t302), (by first | rfl | (simp; done) | (simp [*]; done)), H', ⟨by have := HJ5.out; first | omega | exact Nat.le_refl _⟩, ⟨by (with_reducible repeat (first | apply Kd.R_alloc | apply Kd.R_drewN | apply Kd.R_drew)); exact Kd.R_mono HO271.out (fun _ hk => trivial)⟩, ⟨by repeat (first | (with_reducible first | exact HB.out | apply below_alloc | apply pw_below_drewN | apply below_drew1) | exact HB.out)⟩⟩
                        · rw [if_neg c36] at H
                          exact absurd H (by simp)
                      · rw [if_neg c34] at H
                        exact absurd H (by simp)
                  · replace c28 := Bool.eq_false_iff.mpr c28
                    subst c28
                    have H1 : (if (t281 != false) = true then (phaetonlaw01_BitsParts.j1 kj5 l0 l1 t262 y269 true) else ((bits_Spread.f y278).bind fun t303 => ((some (([] : List Int) : List Int)).bind fun y306 => ((bits_Spread.f l2).bind fun t309 => (if y306.length + t309.length < 17592186044416 then ((some (y306 ++ t309 : List Int)).bind fun y312 => ((bits_Spread.f l3).bind fun t315 => (if y312.length + t315.length < 17592186044416 then ((phaetonref01_Same.f kj5 t303 (y312 ++ t315)).bind fun t321 => (phaetonlaw01_BitsParts.j1 kj5 l0 l1 t262 y269 (!t321))) else (none)))) else (none)))))) = some r := by rw [if_neg (show ¬ (false = true) by decide)] at H; exact H
                    clear H
                    have H := H1
                    clear H1
                    by_cases c51 : (t281 != false) = true
                    · rw [if_pos c51] at H
                      have c51b0 : (t281 != false) = true := c51
                      (try (have c51b1 : decide (t281 = false) = false := by simpa using c51))
                      (try (have c51b2 : (t281 == false) = false := by simpa using c51))
                      (try (have c51b3 : ¬ (t281 = false) := by simpa using c51))
                      clear c51
                      have H' := Aside0.mk H
                      clear H
                      obtain ⟨Ao52, co52, eo52⟩ := Kd.R_slice HO271.out
                      subst eo52
                      go_wp2_with (first | ((with_reducible refine gate_callee (f := 17) rfl ?_); refine goesL_ (some 49) rfl rfl Try.func17 (by kernel_rfl) rfl #[.slice Ao52 y269.length co52] rfl (by (try simp only [List.map_toArray, List.map_cons, List.map_nil]); first | done | rfl | (simp only [List.length_drop, List.length_take]; rfl)) ?_; (with_reducible refine (bits_Right.calls kj5 _ _ y269 t281 _ ?side1 ?side2 A26.out).mono ?_); (case side1 => repeat (first | exact (Kd.R_reads' HO271.out).2.2 | (with_reducible refine Kd.C_alloc ?_ _) | (with_reducible refine Kd.C_drewN ?_ _) | (with_reducible refine Kd.C_drew ?_))); (case side2 => exact (Kd.R_reads' HO271.out).2.1); rintro e w' ⟨rfl, ⟨nd, rfl⟩⟩; refine ⟨_, rfl, ?_⟩) | ((with_reducible refine gate_callee (f := 17) rfl ?_); refine goesL_ (some 51) rfl rfl Try.func17 (by kernel_rfl) rfl #[.slice A0 l0.length c0] rfl (by (try simp only [List.map_toArray, List.map_cons, List.map_nil]); first | done | rfl | (simp only [List.length_drop, List.length_take]; rfl)) ?_; (with_reducible refine (bits_Right.calls kj5 _ _ l0 false _ ?side1 ?side2 A27.out).mono ?_); (case side1 => repeat (first | exact (Kd.C_below HR0.out (by repeat (first | (with_reducible first | exact HB.out | apply below_alloc | apply pw_below_drewN | apply below_drew1) | exact HB.out))) | (with_reducible refine Kd.C_alloc ?_ _) | (with_reducible refine Kd.C_drewN ?_ _) | (with_reducible refine Kd.C_drew ?_))); (case side2 => exact HC0.out); rintro e w' ⟨rfl, ⟨nd, rfl⟩⟩; refine ⟨_, rfl, ?_⟩))
                      go_meet
                      case rel => exact ⟨_, (true), (by first | rfl | (simp; done) | (simp [*]; done)), H', ⟨by have := HJ5.out; first | omega | exact Nat.le_refl _⟩, ⟨by (with_reducible repeat (first | apply Kd.R_alloc | apply Kd.R_drewN | apply Kd.R_drew)); exact HO271.out⟩, ⟨by repeat (first | (with_reducible first | exact HB.out | apply below_alloc | apply pw_below_drewN | apply below_drew1) | exact HB.out)⟩⟩
                    · rw [if_neg c51] at H
                      have c51b0 : (t281 != false) = false := by simpa using c51
                      (try (have c51b1 : decide (t281 = false) = true := by simpa using c51))
                      (try (have c51b2 : (t281 == false) = true := by simpa using c51))
                      clear c51
                      replace H := Option.bind_eq_some_iff.mp H
                      obtain ⟨t303, A530, H⟩ := H
                      replace H : ((some (([] : List Int) : List Int)).bind fun y306 => ((bits_Spread.f l2).bind fun t309 => (if y306.length + t309.length < 17592186044416 then ((some (y306 ++ t309 : List Int)).bind fun y312 => ((bits_Spread.f l3).bind fun t315 => (if y312.length + t315.length < 17592186044416 then ((phaetonref01_Same.f kj5 t303 (y312 ++ t315)).bind fun t321 => (phaetonlaw01_BitsParts.j1 kj5 l0 l1 t262 y269 (!t321))) else (none)))) else (none)))) = some r := H
                      have A53 := Aside0.mk A530
                      clear A530
                      obtain ⟨y306, hy306⟩ : ∃ y_ : List Int, y_ = (([] : List Int)) := ⟨_, rfl⟩
                      replace H : ((bits_Spread.f l2).bind fun t309 => (if y306.length + t309.length < 17592186044416 then ((some (y306 ++ t309 : List Int)).bind fun y312 => ((bits_Spread.f l3).bind fun t315 => (if y312.length + t315.length < 17592186044416 then ((phaetonref01_Same.f kj5 t303 (y312 ++ t315)).bind fun t321 => (phaetonlaw01_BitsParts.j1 kj5 l0 l1 t262 y269 (!t321))) else (none)))) else (none))) = some r := by first | (rw [hy306]; with_reducible exact H) | (have H2_ := (Option.bind_some _ _).symm.trans H; rw [hy306]; with_reducible exact H2_) | (have H2_ := (Option.bind_some _ _).symm.trans H; with_reducible exact H2_) | with_reducible exact H | (rw [hy306]; exact H) | exact H
                      have Ny306 := Aside0.mk hy306
                      clear hy306
                      replace H := Option.bind_eq_some_iff.mp H
                      obtain ⟨t309, A540, H⟩ := H
                      replace H : (if y306.length + t309.length < 17592186044416 then ((some (y306 ++ t309 : List Int)).bind fun y312 => ((bits_Spread.f l3).bind fun t315 => (if y312.length + t315.length < 17592186044416 then ((phaetonref01_Same.f kj5 t303 (y312 ++ t315)).bind fun t321 => (phaetonlaw01_BitsParts.j1 kj5 l0 l1 t262 y269 (!t321))) else (none)))) else (none)) = some r := H
                      have A54 := Aside0.mk A540
                      clear A540
                      by_cases c55 : y306.length + t309.length < 17592186044416
                      · rw [if_pos c55] at H
                        have LMc55 := Aside0.mk c55
                        clear c55
                        obtain ⟨y312, hy312⟩ : ∃ y_ : List Int, y_ = (y306 ++ t309) := ⟨_, rfl⟩
                        replace H : ((bits_Spread.f l3).bind fun t315 => (if y312.length + t315.length < 17592186044416 then ((phaetonref01_Same.f kj5 t303 (y312 ++ t315)).bind fun t321 => (phaetonlaw01_BitsParts.j1 kj5 l0 l1 t262 y269 (!t321))) else (none))) = some r := by first | (rw [hy312]; with_reducible exact H) | (have H2_ := (Option.bind_some _ _).symm.trans H; rw [hy312]; with_reducible exact H2_) | (have H2_ := (Option.bind_some _ _).symm.trans H; with_reducible exact H2_) | with_reducible exact H | (rw [hy312]; exact H) | exact H
                        have Ny312 := Aside0.mk hy312
                        clear hy312
                        replace H := Option.bind_eq_some_iff.mp H
                        obtain ⟨t315, A560, H⟩ := H
                        replace H : (if y312.length + t315.length < 17592186044416 then ((phaetonref01_Same.f kj5 t303 (y312 ++ t315)).bind fun t321 => (phaetonlaw01_BitsParts.j1 kj5 l0 l1 t262 y269 (!t321))) else (none)) = some r := H
                        have A56 := Aside0.mk A560
                        clear A560
                        by_cases c57 : y312.length + t315.length < 17592186044416
                        · rw [if_pos c57] at H
                          have LMc57 := Aside0.mk c57
                          clear c57
                          obtain ⟨y318, hy318⟩ : ∃ y_ : List Int, y_ = (y312 ++ t315) := ⟨_, rfl⟩
                          replace H : ((phaetonref01_Same.f kj5 t303 y318).bind fun t321 => (phaetonlaw01_BitsParts.j1 kj5 l0 l1 t262 y269 (!t321))) = some r := by first | (rw [hy318]; with_reducible exact H) | (have H2_ := (Option.bind_some _ _).symm.trans H; rw [hy318]; with_reducible exact H2_) | (have H2_ := (Option.bind_some _ _).symm.trans H; with_reducible exact H2_) | with_reducible exact H | (rw [hy318]; exact H) | exact H
                          have Ny318 := Aside0.mk hy318
                          clear hy318
                          replace H := Option.bind_eq_some_iff.mp H
                          obtain ⟨t321, A580, H⟩ := H
                          replace H : (phaetonlaw01_BitsParts.j1 kj5 l0 l1 t262 y269 (!t321)) = some r := H
                          have A58 := Aside0.mk A580
                          clear A580
                          have H' := Aside0.mk H
                          clear H
                          obtain ⟨Ao59, co59, eo59⟩ := Kd.R_slice HO271.out
                          subst eo59
                          go_wp2_with (first | ((with_reducible refine gate_callee (f := 17) rfl ?_); refine goesL_ (some 49) rfl rfl Try.func17 (by kernel_rfl) rfl #[.slice Ao59 y269.length co59] rfl (by (try simp only [List.map_toArray, List.map_cons, List.map_nil]); first | done | rfl | (simp only [List.length_drop, List.length_take]; rfl)) ?_; (with_reducible refine (bits_Right.calls kj5 _ _ y269 t281 _ ?side1 ?side2 A26.out).mono ?_); (case side1 => repeat (first | exact (Kd.R_reads' HO271.out).2.2 | (with_reducible refine Kd.C_alloc ?_ _) | (with_reducible refine Kd.C_drewN ?_ _) | (with_reducible refine Kd.C_drew ?_))); (case side2 => exact (Kd.R_reads' HO271.out).2.1); rintro e w' ⟨rfl, ⟨nd, rfl⟩⟩; refine ⟨_, rfl, ?_⟩) | ((with_reducible refine gate_callee (f := 17) rfl ?_); refine goesL_ (some 51) rfl rfl Try.func17 (by kernel_rfl) rfl #[.slice A0 l0.length c0] rfl (by (try simp only [List.map_toArray, List.map_cons, List.map_nil]); first | done | rfl | (simp only [List.length_drop, List.length_take]; rfl)) ?_; (with_reducible refine (bits_Right.calls kj5 _ _ l0 false _ ?side1 ?side2 A27.out).mono ?_); (case side1 => repeat (first | exact (Kd.C_below HR0.out (by repeat (first | (with_reducible first | exact HB.out | apply below_alloc | apply pw_below_drewN | apply below_drew1) | exact HB.out))) | (with_reducible refine Kd.C_alloc ?_ _) | (with_reducible refine Kd.C_drewN ?_ _) | (with_reducible refine Kd.C_drew ?_))); (case side2 => exact HC0.out); rintro e w' ⟨rfl, ⟨nd, rfl⟩⟩; refine ⟨_, rfl, ?_⟩; obtain ⟨Ao60, co60, eo60⟩ := Kd.R_slice HO280.out; subst eo60) | (go_at_call 21; (with_reducible refine (bits_Spread.calls _ _ y278 t303 _ ?side1 ?side2 A53.out).mono ?_); (case side1 => repeat (first | exact (Kd.R_reads' HO280.out).2.2 | (with_reducible refine Kd.C_alloc ?_ _) | (with_reducible refine Kd.C_drewN ?_ _) | (with_reducible refine Kd.C_drew ?_))); (case side2 => exact (Kd.R_reads' HO280.out).2.1); rintro e w61 ⟨v304, rfl, ho0, hb⟩; have n0_ := Aside0.mk (Kd.R_elder' (by (with_reducible repeat (first | apply Kd.R_alloc | apply Kd.R_drewN | apply Kd.R_drew)); exact HO271.out) (Kd.R_base ho0) hb); have n1_ := Aside0.mk (Kd.R_below (by (with_reducible repeat (first | apply Kd.R_alloc | apply Kd.R_drewN | apply Kd.R_drew)); exact HO280.out) hb); have n2_ := Aside0.mk (Kd.R_lower (Kd.R_new' ho0 (Kd.R_lt (by (with_reducible repeat (first | apply Kd.R_alloc | apply Kd.R_drewN | apply Kd.R_drew)); exact HO271.out))) (below_size (by repeat (first | (with_reducible first | exact HB.out | apply below_alloc | apply pw_below_drewN | apply below_drew1) | exact HB.out)))); have n3_ := Aside0.mk (below_step (by repeat (first | (with_reducible first | exact HB.out | apply below_alloc | apply pw_below_drewN | apply below_drew1) | exact HB.out)) hb); clear HO271; clear HO280; clear HB; have HO271 := n0_; have HO280 := n1_; have HO305 := n2_; have HB := n3_; clear n0_ n1_ n2_ n3_; (try clear hb); (try clear hb2); (try clear hk); (try clear hi); (try clear ho0)) | ((with_reducible refine gate_dst (N := 60) rfl ?_); (try (refine gate_guard (by rfl) ?_; dsimp only)); refine Kd.R_lit (Kd.int .i64) _ 3 ?hg (N := 60) ?hd (xs := ([] : List Int)) (inner := []) (ok := fun _ => True) (okp := fun _ => True) ?hr ?hp (fun _ hk => hk) trivial (Below.refl _ _) (Nat.le_refl _) (by simp) ?_; (case hd => rfl); (case hg => rfl); (case hr => first | (go_simp; done) | (go_simp; rfl)); (case hp => exact (Reps.none _ _)); intro v307 w62 ho63 hb hg_ hnew_; clear hg_ hnew_; (first | rw [← Ny306.out] at ho63 | (simp only [Int.reduceToNat] at ho63; rw [← Ny306.out] at ho63)); have n0_ := Aside0.mk (Kd.R_elder' (by (with_reducible repeat (first | apply Kd.R_alloc | apply Kd.R_drewN | apply Kd.R_drew)); exact HO271.out) (Kd.R_base ho63) hb); have n1_ := Aside0.mk (Kd.R_below (by (with_reducible repeat (first | apply Kd.R_alloc | apply Kd.R_drewN | apply Kd.R_drew)); exact HO280.out) hb); have n2_ := Aside0.mk (Kd.R_elder' (by (with_reducible repeat (first | apply Kd.R_alloc | apply Kd.R_drewN | apply Kd.R_drew)); exact HO305.out) (Kd.R_base ho63) hb); have n3_ := Aside0.mk (Kd.R_lower (Kd.R_new' (Kd.R_new' ho63 (Kd.R_lt (by (with_reducible repeat (first | apply Kd.R_alloc | apply Kd.R_drewN | apply Kd.R_drew)); exact HO271.out))) (Kd.R_lt (by (with_reducible repeat (first | apply Kd.R_alloc | apply Kd.R_drewN | apply Kd.R_drew)); exact HO305.out))) (below_size (by repeat (first | (with_reducible first | exact HB.out | apply below_alloc | apply pw_below_drewN | apply below_drew1) | exact HB.out)))); have n4_ := Aside0.mk (below_step (by repeat (first | (with_reducible first | exact HB.out | apply below_alloc | apply pw_below_drewN | apply below_drew1) | exact HB.out)) hb); clear HO271; clear HO280; clear HO305; clear HB; have HO271 := n0_; have HO280 := n1_; have HO305 := n2_; have HO308 := n3_; have HB := n4_; clear n0_ n1_ n2_ n3_ n4_; clear hb ho63) | (go_at_call 21; (with_reducible refine (bits_Spread.calls _ _ l2 t309 _ ?side1 ?side2 A54.out).mono ?_); (case side1 => repeat (first | exact (Kd.C_below HR2.out HB.out) | (with_reducible refine Kd.C_alloc ?_ _) | (with_reducible refine Kd.C_drewN ?_ _) | (with_reducible refine Kd.C_drew ?_))); (case side2 => exact HC2.out); rintro e w64 ⟨v310, rfl, ho0, hb⟩; have n0_ := Aside0.mk (Kd.R_elder' (by (with_reducible repeat (first | apply Kd.R_alloc | apply Kd.R_drewN | apply Kd.R_drew)); exact HO271.out) (Kd.R_base ho0) hb); have n1_ := Aside0.mk (Kd.R_below (by (with_reducible repeat (first | apply Kd.R_alloc | apply Kd.R_drewN | apply Kd.R_drew)); exact HO280.out) hb); have n2_ := Aside0.mk (Kd.R_elder' (by (with_reducible repeat (first | apply Kd.R_alloc | apply Kd.R_drewN | apply Kd.R_drew)); exact HO305.out) (Kd.R_base ho0) hb); have n3_ := Aside0.mk (Kd.R_elder' (by (with_reducible repeat (first | apply Kd.R_alloc | apply Kd.R_drewN | apply Kd.R_drew)); exact HO308.out) (Kd.R_base ho0) hb); have n4_ := Aside0.mk (Kd.R_lower (Kd.R_new' (Kd.R_new' (Kd.R_new' ho0 (Kd.R_lt (by (with_reducible repeat (first | apply Kd.R_alloc | apply Kd.R_drewN | apply Kd.R_drew)); exact HO271.out))) (Kd.R_lt (by (with_reducible repeat (first | apply Kd.R_alloc | apply Kd.R_drewN | apply Kd.R_drew)); exact HO305.out))) (Kd.R_lt (by (with_reducible repeat (first | apply Kd.R_alloc | apply Kd.R_drewN | apply Kd.R_drew)); exact HO308.out))) (below_size (by repeat (first | (with_reducible first | exact HB.out | apply below_alloc | apply pw_below_drewN | apply below_drew1) | exact HB.out)))); have n5_ := Aside0.mk (below_step (by repeat (first | (with_reducible first | exact HB.out | apply below_alloc | apply pw_below_drewN | apply below_drew1) | exact HB.out)) hb); clear HO271; clear HO280; clear HO305; clear HO308; clear HB; have HO271 := n0_; have HO280 := n1_; have HO305 := n2_; have HO308 := n3_; have HO311 := n4_; have HB := n5_; clear n0_ n1_ n2_ n3_ n4_ n5_; (try clear hb); (try clear hb2); (try clear hk); (try clear hi); (try clear ho0); obtain ⟨Ao66, co66, eo66⟩ := Kd.R_slice HO311.out; subst eo66) | ((with_reducible refine gate_builtin (b := .append) (xs := #[.tmp 60, .tmp 62]) rfl ?_); (try (refine gate_guard (by rfl) ?_; dsimp only)); at_builtin; refine Kd.R_append_rows (Kd.int .i64) (w0 := w) w.heap.size rfl (.tmp 60) (.tmp 62) 22 3 (.int .i64 0) 8 rfl Try.underlying22 info3 rfl (by decide) (by omega) v307 y306 t309 _ _ _ (fun k_ => some k_ ≠ (.slice Ao59 y269.length co59 : Value).ownBlock ∧ some k_ ≠ (v304 : Value).ownBlock ∧ some k_ ≠ (.slice Ao66 t309.length co66 : Value).ownBlock) (fun _ => False) rfl rfl ?aO ?aR (fun _ _ h => h) (fun _ h => h.elim) ?aF ?aB ?aS ?aL ?_; (case aR => repeat (first | exact (Kd.R_reads' HO311.out).2.2 | (with_reducible refine Kd.C_alloc ?_ _) | (with_reducible refine Kd.C_drewN ?_ _) | (with_reducible refine Kd.C_drew ?_))); (case aB => exact (by repeat (first | (with_reducible first | exact HB.out | apply below_alloc | apply pw_below_drewN | apply below_drew1) | exact HB.out))); (case aF => exact (fun k_ hk => ⟨Kd.fresh' (Kd.R_lt (by (with_reducible repeat (first | apply Kd.R_alloc | apply Kd.R_drewN | apply Kd.R_drew)); exact HO271.out)) k_ hk, Kd.fresh' (Kd.R_lt (by (with_reducible repeat (first | apply Kd.R_alloc | apply Kd.R_drewN | apply Kd.R_drew)); exact HO305.out)) k_ hk, Kd.fresh' (Kd.R_lt (by (with_reducible repeat (first | apply Kd.R_alloc | apply Kd.R_drewN | apply Kd.R_drew)); exact HO311.out)) k_ hk⟩)); (case aO => exact (by (with_reducible repeat (first | apply Kd.R_alloc | apply Kd.R_drewN | apply Kd.R_drew)); exact Kd.R_mono HO308.out (fun _ hk => ⟨hk.1.1.2, ⟨hk.1.2, hk.2⟩⟩))); (case aS => exact (below_size (by repeat (first | (with_reducible first | exact HB.out | apply below_alloc | apply pw_below_drewN | apply below_drew1) | exact HB.out)))); (case aL => have := LMc55.out; omega); intro v313 w65 ho hb hg hat; rw [← Ny312.out] at ho; have n0_ := Aside0.mk (Kd.R_after (ok := (fun k_ => some k_ ≠ (v304 : Value).ownBlock ∧ some k_ ≠ (.slice Ao66 t309.length co66 : Value).ownBlock)) (by (with_reducible repeat (first | apply Kd.R_alloc | apply Kd.R_drewN | apply Kd.R_drew)); exact Kd.R_mono HO271.out (fun _ hk => ⟨⟨hk.1.1.2, hk.2⟩, hk.1.2⟩)) hg hat); have n1_ := Aside0.mk (Kd.R_over' (by (with_reducible repeat (first | apply Kd.R_alloc | apply Kd.R_drewN | apply Kd.R_drew)); exact HO280.out) (Kd.R_typed (by (with_reducible repeat (first | apply Kd.R_alloc | apply Kd.R_drewN | apply Kd.R_drew)); exact HO308.out)) (by decide) hg); have n2_ := Aside0.mk (Kd.R_after (ok := (fun k_ => some k_ ≠ (.slice Ao59 y269.length co59 : Value).ownBlock ∧ some k_ ≠ (.slice Ao66 t309.length co66 : Value).ownBlock)) (by (with_reducible repeat (first | apply Kd.R_alloc | apply Kd.R_drewN | apply Kd.R_drew)); exact Kd.R_mono HO305.out (fun _ hk => ⟨⟨hk.1.1.2, hk.2⟩, hk.1.2⟩)) hg hat); have n3_ := Aside0.mk (Kd.R_after (ok := (fun k_ => some k_ ≠ (.slice Ao59 y269.length co59 : Value).ownBlock ∧ some k_ ≠ (v304 : Value).ownBlock)) (by (with_reducible repeat (first | apply Kd.R_alloc | apply Kd.R_drewN | apply Kd.R_drew)); exact Kd.R_mono HO311.out (fun _ hk => ⟨⟨hk.1.1.2, hk.1.2⟩, hk.2⟩)) hg hat); have n4_ := Aside0.mk (hb); have n5_ := Aside0.mk (ho); clear HO271; clear HO280; clear HO305; clear HO311; clear HB; clear HO308; have HO271 := n0_; have HO280 := n1_; have HO305 := n2_; have HO311 := n3_; have HB := n4_; have HO314 := n5_; clear n0_ n1_ n2_ n3_ n4_ n5_; clear ho hb hg hat) | (go_at_call 21; (with_reducible refine (bits_Spread.calls _ _ l3 t315 _ ?side1 ?side2 A56.out).mono ?_); (case side1 => repeat (first | exact (Kd.C_below HR3.out HB.out) | (with_reducible refine Kd.C_alloc ?_ _) | (with_reducible refine Kd.C_drewN ?_ _) | (with_reducible refine Kd.C_drew ?_))); (case side2 => exact HC3.out); rintro e w67 ⟨v316, rfl, ho0, hb⟩; have n0_ := Aside0.mk (Kd.R_elder' (by (with_reducible repeat (first | apply Kd.R_alloc | apply Kd.R_drewN | apply Kd.R_drew)); exact HO271.out) (Kd.R_base ho0) hb); have n1_ := Aside0.mk (Kd.R_below (by (with_reducible repeat (first | apply Kd.R_alloc | apply Kd.R_drewN | apply Kd.R_drew)); exact HO280.out) hb); have n2_ := Aside0.mk (Kd.R_elder' (by (with_reducible repeat (first | apply Kd.R_alloc | apply Kd.R_drewN | apply Kd.R_drew)); exact HO305.out) (Kd.R_base ho0) hb); have n3_ := Aside0.mk (Kd.R_elder' (by (with_reducible repeat (first | apply Kd.R_alloc | apply Kd.R_drewN | apply Kd.R_drew)); exact HO311.out) (Kd.R_base ho0) hb); have n4_ := Aside0.mk (Kd.R_elder' (by (with_reducible repeat (first | apply Kd.R_alloc | apply Kd.R_drewN | apply Kd.R_drew)); exact HO314.out) (Kd.R_base ho0) hb); have n5_ := Aside0.mk (Kd.R_lower (Kd.R_new' (Kd.R_new' (Kd.R_new' (Kd.R_new' ho0 (Kd.R_lt (by (with_reducible repeat (first | apply Kd.R_alloc | apply Kd.R_drewN | apply Kd.R_drew)); exact HO271.out))) (Kd.R_lt (by (with_reducible repeat (first | apply Kd.R_alloc | apply Kd.R_drewN | apply Kd.R_drew)); exact HO305.out))) (Kd.R_lt (by (with_reducible repeat (first | apply Kd.R_alloc | apply Kd.R_drewN | apply Kd.R_drew)); exact HO311.out))) (Kd.R_lt (by (with_reducible repeat (first | apply Kd.R_alloc | apply Kd.R_drewN | apply Kd.R_drew)); exact HO314.out))) (below_size (by repeat (first | (with_reducible first | exact HB.out | apply below_alloc | apply pw_below_drewN | apply below_drew1) | exact HB.out)))); have n6_ := Aside0.mk (below_step (by repeat (first | (with_reducible first | exact HB.out | apply below_alloc | apply pw_below_drewN | apply below_drew1) | exact HB.out)) hb); clear HO271; clear HO280; clear HO305; clear HO311; clear HO314; clear HB; have HO271 := n0_; have HO280 := n1_; have HO305 := n2_; have HO311 := n3_; have HO314 := n4_; have HO317 := n5_; have HB := n6_; clear n0_ n1_ n2_ n3_ n4_ n5_ n6_; (try clear hb); (try clear hb2); (try clear hk); (try clear hi); (try clear ho0); obtain ⟨Ao69, co69, eo69⟩ := Kd.R_slice HO317.out; subst eo69) | ((with_reducible refine gate_builtin (b := .append) (xs := #[.tmp 63, .tmp 65]) rfl ?_); (try (refine gate_guard (by rfl) ?_; dsimp only)); at_builtin; refine Kd.R_append_rows (Kd.int .i64) (w0 := w) w.heap.size rfl (.tmp 63) (.tmp 65) 22 3 (.int .i64 0) 8 rfl Try.underlying22 info3 rfl (by decide) (by omega) v313 y312 t315 _ _ _ (fun k_ => some k_ ≠ (.slice Ao59 y269.length co59 : Value).ownBlock ∧ some k_ ≠ (v304 : Value).ownBlock ∧ some k_ ≠ (.slice Ao66 t309.length co66 : Value).ownBlock ∧ some k_ ≠ (.slice Ao69 t315.length co69 : Value).ownBlock) (fun _ => False) rfl rfl ?aO ?aR (fun _ _ h => h) (fun _ h => h.elim) ?aF ?aB ?aS ?aL ?_; (case aR => repeat (first | exact (Kd.R_reads' HO317.out).2.2 | (with_reducible refine Kd.C_alloc ?_ _) | (with_reducible refine Kd.C_drewN ?_ _) | (with_reducible refine Kd.C_drew ?_))); (case aB => exact (by repeat (first | (with_reducible first | exact HB.out | apply below_alloc | apply pw_below_drewN | apply below_drew1) | exact HB.out))); (case aF => exact (fun k_ hk => ⟨Kd.fresh' (Kd.R_lt (by (with_reducible repeat (first | apply Kd.R_alloc | apply Kd.R_drewN | apply Kd.R_drew)); exact HO271.out)) k_ hk, Kd.fresh' (Kd.R_lt (by (with_reducible repeat (first | apply Kd.R_alloc | apply Kd.R_drewN | apply Kd.R_drew)); exact HO305.out)) k_ hk, Kd.fresh' (Kd.R_lt (by (with_reducible repeat (first | apply Kd.R_alloc | apply Kd.R_drewN | apply Kd.R_drew)); exact HO311.out)) k_ hk, Kd.fresh' (Kd.R_lt (by (with_reducible repeat (first | apply Kd.R_alloc | apply Kd.R_drewN | apply Kd.R_drew)); exact HO317.out)) k_ hk⟩)); (case aO => exact (by (with_reducible repeat (first | apply Kd.R_alloc | apply Kd.R_drewN | apply Kd.R_drew)); exact Kd.R_mono HO314.out (fun _ hk => ⟨hk.1.1, ⟨hk.1.2.1, ⟨hk.1.2.2, hk.2⟩⟩⟩))); (case aS => exact (below_size (by repeat (first | (with_reducible first | exact HB.out | apply below_alloc | apply pw_below_drewN | apply below_drew1) | exact HB.out)))); (case aL => have := LMc57.out; omega); intro v319 w68 ho hb hg hat; rw [← Ny318.out] at ho; have n0_ := Aside0.mk (Kd.R_after (ok := (fun k_ => some k_ ≠ (v304 : Value).ownBlock ∧ some k_ ≠ (.slice Ao66 t309.length co66 : Value).ownBlock ∧ some k_ ≠ (.slice Ao69 t315.length co69 : Value).ownBlock)) (by (with_reducible repeat (first | apply Kd.R_alloc | apply Kd.R_drewN | apply Kd.R_drew)); exact Kd.R_mono HO271.out (fun _ hk => ⟨⟨hk.1.1.1, ⟨hk.1.1.2, hk.2⟩⟩, hk.1.2⟩)) hg hat); have n1_ := Aside0.mk (Kd.R_over' (by (with_reducible repeat (first | apply Kd.R_alloc | apply Kd.R_drewN | apply Kd.R_drew)); exact HO280.out) (Kd.R_typed (by (with_reducible repeat (first | apply Kd.R_alloc | apply Kd.R_drewN | apply Kd.R_drew)); exact HO314.out)) (by decide) hg); have n2_ := Aside0.mk (Kd.R_after (ok := (fun k_ => some k_ ≠ (.slice Ao59 y269.length co59 : Value).ownBlock ∧ some k_ ≠ (.slice Ao66 t309.length co66 : Value).ownBlock ∧ some k_ ≠ (.slice Ao69 t315.length co69 : Value).ownBlock)) (by (with_reducible repeat (first | apply Kd.R_alloc | apply Kd.R_drewN | apply Kd.R_drew)); exact Kd.R_mono HO305.out (fun _ hk => ⟨⟨hk.1.1.1, ⟨hk.1.1.2, hk.2⟩⟩, hk.1.2⟩)) hg hat); have n3_ := Aside0.mk (Kd.R_after (ok := (fun k_ => some k_ ≠ (.slice Ao59 y269.length co59 : Value).ownBlock ∧ some k_ ≠ (v304 : Value).ownBlock ∧ some k_ ≠ (.slice Ao69 t315.length co69 : Value).ownBlock)) (by (with_reducible repeat (first | apply Kd.R_alloc | apply Kd.R_drewN | apply Kd.R_drew)); exact Kd.R_mono HO311.out (fun _ hk => ⟨⟨hk.1.1.1, ⟨hk.1.1.2, hk.2⟩⟩, hk.1.2⟩)) hg hat); have n4_ := Aside0.mk (Kd.R_after (ok := (fun k_ => some k_ ≠ (.slice Ao59 y269.length co59 : Value).ownBlock ∧ some k_ ≠ (v304 : Value).ownBlock ∧ some k_ ≠ (.slice Ao66 t309.length co66 : Value).ownBlock)) (by (with_reducible repeat (first | apply Kd.R_alloc | apply Kd.R_drewN | apply Kd.R_drew)); exact Kd.R_mono HO317.out (fun _ hk => ⟨⟨hk.1.1.1.2, ⟨hk.1.1.2, hk.1.2⟩⟩, hk.2⟩)) hg hat); have n5_ := Aside0.mk (hb); have n6_ := Aside0.mk (ho); clear HO271; clear HO280; clear HO305; clear HO311; clear HO317; clear HB; clear HO314; have HO271 := n0_; have HO280 := n1_; have HO305 := n2_; have HO311 := n3_; have HO317 := n4_; have HB := n5_; have HO320 := n6_; clear n0_ n1_ n2_ n3_ n4_ n5_ n6_; clear ho hb hg hat; obtain ⟨Ao70, co70, eo70⟩ := Kd.R_slice HO305.out; subst eo70; obtain ⟨Ao71, co71, eo71⟩ := Kd.R_slice HO320.out; subst eo71) | (go_at_call 19; (with_reducible refine (phaetonref01_Same.calls kj5 _ _ t303 _ _ y318 t321 _ ?side1 ?side2 ?side3 ?side4 A58.out).mono ?_); (case side1 => repeat (first | exact (Kd.R_reads' HO305.out).2.2 | (with_reducible refine Kd.C_alloc ?_ _) | (with_reducible refine Kd.C_drewN ?_ _) | (with_reducible refine Kd.C_drew ?_))); (case side2 => exact (Kd.R_reads' HO305.out).2.1); (case side3 => repeat (first | exact (Kd.R_reads' HO320.out).2.2 | (with_reducible refine Kd.C_alloc ?_ _) | (with_reducible refine Kd.C_drewN ?_ _) | (with_reducible refine Kd.C_drew ?_))); (case side4 => exact (Kd.R_reads' HO320.out).2.1); rintro e w' ⟨rfl, ⟨nd, rfl⟩⟩))
                          go_meet
                          case rel => exact ⟨_, (!t321), (by first | rfl | (simp; done) | (simp [*]; done)), H', ⟨by have := HJ5.out; first | omega | exact Nat.le_refl _⟩, ⟨by (with_reducible repeat (first | apply Kd.R_alloc | apply Kd.R_drewN | apply Kd.R_drew)); exact Kd.R_mono HO271.out (fun _ hk => trivial)⟩, ⟨by repeat (first | (with_reducible first | exact HB.out | apply below_alloc | apply pw_below_drewN | apply below_drew1) | exact HB.out)⟩⟩
                        · rw [if_neg c57] at H
                          exact absurd H (by simp)
                      · rw [if_neg c55] at H
                        exact absurd H (by simp)
                case rest =>
                  clear HC17
                  try clear c1
                  try clear c2
                  try clear p2
                  try clear c3
                  try clear c5
                  try clear c7
                  try clear c8
                  try clear c8b0
                  try clear c8b1
                  try clear c9
                  try clear c9b0
                  try clear c9b1
                  try clear c10
                  try clear c10b0
                  try clear c10b1
                  try clear c11
                  try clear c12
                  try clear c13
                  try clear c14
                  try clear c15
                  try clear c16
                  try clear c17
                  try clear c28
                  try clear c30
                  try clear c30b0
                  try clear c30b1
                  try clear c30b2
                  try clear c34
                  try clear c36
                  try clear c51
                  try clear c51b0
                  try clear c51b1
                  try clear c51b2
                  try clear c55
                  try clear c57
                  try clear p2
                  obtain ⟨kq, x69_16, rfl, HA, HJ16, HO_10, HB⟩ := hcut
                  cases kq with
                  | zero => exact absurd HA.out (by simp [phaetonlaw01_BitsParts.j1])
                  | succ kj16 =>
                    have H := HA.out
                    clear HA
                    simp only [phaetonlaw01_BitsParts.j1] at H
                    by_cases c72 : x69_16 = true
                    · subst c72
                      have H1 : (none) = some r := by rw [if_pos rfl] at H; exact H
                      clear H
                      have H := H1
                      clear H1
                      exact absurd H (by simp)
                    · replace c72 := Bool.eq_false_iff.mpr c72
                      subst c72
                      have H1 : ((bits_Get.f kj16 y269).bind fun bt322 => ((bits_Get.f kj16 l0).bind fun bt324 => ((bits_Get.f kj16 l1).bind fun bt326 => (if t262 = true then (if bt324.2 = true then (if (bt322.2 == bt326.2) = true then (if bt322.2 = true then (if (shr .i64 bt322.1 (l1.length : Int)) = bt324.1 then (if (shl .i64 1 (l1.length : Int)) = 0 then (none) else (if (Int.tmod bt322.1 (shl .i64 1 (l1.length : Int))) = bt326.1 then (some true) else (none))) else (none)) else (some true)) else (none)) else (if (bt322.2 == false) = true then (if bt322.2 = true then (if (shr .i64 bt322.1 (l1.length : Int)) = bt324.1 then (if (shl .i64 1 (l1.length : Int)) = 0 then (none) else (if (Int.tmod bt322.1 (shl .i64 1 (l1.length : Int))) = bt326.1 then (some true) else (none))) else (none)) else (some true)) else (none))) else (none))))) = some r := by rw [if_neg (show ¬ (false = true) by decide)] at H; exact H
                      clear H
                      have H := H1
                      clear H1
                      replace H := Option.bind_eq_some_iff.mp H
                      obtain ⟨⟨t322, t323⟩, A730, H⟩ := H
                      replace H : ((bits_Get.f kj16 l0).bind fun bt324 => ((bits_Get.f kj16 l1).bind fun bt326 => (if t262 = true then (if bt324.2 = true then (if (t323 == bt326.2) = true then (if t323 = true then (if (shr .i64 t322 (l1.length : Int)) = bt324.1 then (if (shl .i64 1 (l1.length : Int)) = 0 then (none) else (if (Int.tmod t322 (shl .i64 1 (l1.length : Int))) = bt326.1 then (some true) else (none))) else (none)) else (some true)) else (none)) else (if (t323 == false) = true then (if t323 = true then (if (shr .i64 t322 (l1.length : Int)) = bt324.1 then (if (shl .i64 1 (l1.length : Int)) = 0 then (none) else (if (Int.tmod t322 (shl .i64 1 (l1.length : Int))) = bt326.1 then (some true) else (none))) else (none)) else (some true)) else (none))) else (none)))) = some r := H
                      have A73 := Aside0.mk A730
                      clear A730
                      replace H := Option.bind_eq_some_iff.mp H
                      obtain ⟨⟨t324, t325⟩, A740, H⟩ := H
                      replace H : ((bits_Get.f kj16 l1).bind fun bt326 => (if t262 = true then (if t325 = true then (if (t323 == bt326.2) = true then (if t323 = true then (if (shr .i64 t322 (l1.length : Int)) = t324 then (if (shl .i64 1 (l1.length : Int)) = 0 then (none) else (if (Int.tmod t322 (shl .i64 1 (l1.length : Int))) = bt326.1 then (some true) else (none))) else (none)) else (some true)) else (none)) else (if (t323 == false) = true then (if t323 = true then (if (shr .i64 t322 (l1.length : Int)) = t324 then (if (shl .i64 1 (l1.length : Int)) = 0 then (none) else (if (Int.tmod t322 (shl .i64 1 (l1.length : Int))) = bt326.1 then (some true) else (none))) else (none)) else (some true)) else (none))) else (none))) = some r := H
                      have A74 := Aside0.mk A740
                      clear A740
                      replace H := Option.bind_eq_some_iff.mp H
                      obtain ⟨⟨t326, t327⟩, A750, H⟩ := H
                      replace H : (if t262 = true then (if t325 = true then (if (t323 == t327) = true then (if t323 = true then (if (shr .i64 t322 (l1.length : Int)) = t324 then (if (shl .i64 1 (l1.length : Int)) = 0 then (none) else (if (Int.tmod t322 (shl .i64 1 (l1.length : Int))) = t326 then (some true) else (none))) else (none)) else (some true)) else (none)) else (if (t323 == false) = true then (if t323 = true then (if (shr .i64 t322 (l1.length : Int)) = t324 then (if (shl .i64 1 (l1.length : Int)) = 0 then (none) else (if (Int.tmod t322 (shl .i64 1 (l1.length : Int))) = t326 then (some true) else (none))) else (none)) else (some true)) else (none))) else (none)) = some r := H
                      have A75 := Aside0.mk A750
                      clear A750
                      by_cases c76 : t262 = true
                      · subst c76
                        have H1 : (if t325 = true then (if (t323 == t327) = true then (if t323 = true then (if (shr .i64 t322 (l1.length : Int)) = t324 then (if (shl .i64 1 (l1.length : Int)) = 0 then (none) else (if (Int.tmod t322 (shl .i64 1 (l1.length : Int))) = t326 then (some true) else (none))) else (none)) else (some true)) else (none)) else (if (t323 == false) = true then (if t323 = true then (if (shr .i64 t322 (l1.length : Int)) = t324 then (if (shl .i64 1 (l1.length : Int)) = 0 then (none) else (if (Int.tmod t322 (shl .i64 1 (l1.length : Int))) = t326 then (some true) else (none))) else (none)) else (some true)) else (none))) = some r := by rw [if_pos rfl] at H; exact H
                        clear H
                        have H := H1
                        clear H1
                        by_cases c77 : t325 = true
                        · subst c77
                          have H1 : (if (t323 == t327) = true then (if t323 = true then (if (shr .i64 t322 (l1.length : Int)) = t324 then (if (shl .i64 1 (l1.length : Int)) = 0 then (none) else (if (Int.tmod t322 (shl .i64 1 (l1.length : Int))) = t326 then (some true) else (none))) else (none)) else (some true)) else (none)) = some r := by rw [if_pos rfl] at H; exact H
                          clear H
                          have H := H1
                          clear H1
                          by_cases c78 : (t323 == t327) = true
                          · rw [if_pos c78] at H
                            have c78b0 : (t323 == t327) = true := c78
                            (try (have c78b1 : decide (t323 = t327) = true := by simpa using c78))
                            (try (have c78b2 : (t323 == t327) = true := by simpa using c78))
                            clear c78
                            by_cases c79 : t323 = true
                            · subst c79
                              have H1 : (if (shr .i64 t322 (l1.length : Int)) = t324 then (if (shl .i64 1 (l1.length : Int)) = 0 then (none) else (if (Int.tmod t322 (shl .i64 1 (l1.length : Int))) = t326 then (some true) else (none))) else (none)) = some r := by rw [if_pos rfl] at H; exact H
                              clear H
                              have H := H1
                              clear H1
                              obtain ⟨ji80, hji80⟩ : ∃ j_ : Int, (shr .i64 t322 (l1.length : Int)) = j_ := ⟨_, rfl⟩
                              replace H : (if (ji80) = t324 then (if (shl .i64 1 (l1.length : Int)) = 0 then (none) else (if (Int.tmod t322 (shl .i64 1 (l1.length : Int))) = t326 then (some true) else (none))) else (none)) = some r := by first | (rw [hji80] at H; exact H) | (simp only [hji80] at H ⊢; exact H)
                              (try rw [hji80] at A73)
                              (try rw [hji80] at A74)
                              (try rw [hji80] at A75)
                              have hji80_ : (t322 / 2 ^ min (l1.length : Int).toNat 64) = ji80 := hji80
                              have hji80z : (l1.length : Int) ≤ 64 → (t322 / 2 ^ (l1.length : Int).toNat) = ji80 := shr_small hji80
                              have hji80p : (t322 / 2 ^ min l1.length 64) = ji80 := hji80_
                              have hji80q : (l1.length : Int) ≤ 64 → (t322 / 2 ^ l1.length) = ji80 := hji80z
                              by_cases c81 : (ji80) = t324
                              · rw [if_pos c81] at H
                                have c81b0 : ((ji80) == t324) = true := beq_iff_eq.mpr c81
                                have c81b1 : ((ji80) != t324) = false := bne_eq_false_iff_eq.mpr c81
                                clear c81
                                obtain ⟨ji82, hji82⟩ : ∃ j_ : Int, (shl .i64 1 (l1.length : Int)) = j_ := ⟨_, rfl⟩
                                replace H : (if (ji82) = 0 then (none) else (if (Int.tmod t322 (ji82)) = t326 then (some true) else (none))) = some r := by first | (rw [hji82] at H; exact H) | (simp only [hji82] at H ⊢; exact H)
                                (try rw [hji82] at A73)
                                (try rw [hji82] at A74)
                                (try rw [hji82] at A75)
                                have hji82_ : (IntKind.i64.wrap (1 * 2 ^ min (l1.length : Int).toNat 64)) = ji82 := hji82
                                have hji82z : (l1.length : Int) ≤ 64 → (IntKind.i64.wrap (1 * 2 ^ (l1.length : Int).toNat)) = ji82 := shl_small hji82
                                have hji82p : (IntKind.i64.wrap (1 * 2 ^ min l1.length 64)) = ji82 := hji82_
                                have hji82q : (l1.length : Int) ≤ 64 → (IntKind.i64.wrap (1 * 2 ^ l1.length)) = ji82 := hji82z
                                have hji82r : (IntKind.i64.wrap (2 ^ min l1.length 64)) = ji82 := by have h_ := hji82p; rw [Int.one_mul] at h_; exact h_
                                have hji82s : (l1.length : Int) ≤ 64 → (IntKind.i64.wrap (2 ^ l1.length)) = ji82 := fun hle_ => by have h_ := hji82q hle_; rw [Int.one_mul] at h_; exact h_
                                have hji82u : (IntKind.i64.wrap (2 ^ min (l1.length : Int).toNat 64)) = ji82 := by have h_ := hji82_; rw [Int.one_mul] at h_; exact h_
                                have hji82v : (l1.length : Int) ≤ 64 → (IntKind.i64.wrap (2 ^ (l1.length : Int).toNat)) = ji82 := fun hle_ => by have h_ := hji82z hle_; rw [Int.one_mul] at h_; exact h_
                                have hji82y : (wrap64 (1 * 2 ^ min (l1.length : Int).toNat 64)) = ji82 := (i64_w _).symm.trans hji82_
                                have hji82x : (l1.length : Int) ≤ 64 → (wrap64 (1 * 2 ^ (l1.length : Int).toNat)) = ji82 := fun h_ => (i64_w _).symm.trans (hji82z h_)
                                by_cases c83 : (ji82) = 0
                                · rw [if_pos c83] at H
                                  exact absurd H (by simp)
                                · rw [if_neg c83] at H
                                  have c83b0 : ((ji82) == 0) = false := beq_eq_false_iff_ne.mpr c83
                                  have c83b1 : ((ji82) != 0) = true := bne_iff_ne.mpr c83
                                  by_cases c84 : (Int.tmod t322 (ji82)) = t326
                                  · rw [if_pos c84] at H
                                    have c84b0 : ((Int.tmod t322 (ji82)) == t326) = true := beq_iff_eq.mpr c84
                                    have c84b1 : ((Int.tmod t322 (ji82)) != t326) = false := bne_eq_false_iff_eq.mpr c84
                                    clear c84
                                    obtain rfl := Option.some.inj H
                                    obtain ⟨Ao85, co85, eo85⟩ := Kd.R_slice HO_10.out
                                    subst eo85
                                    go_wp2_with (first | ((with_reducible refine gate_callee (f := 13) rfl ?_); refine goesL_ (some 72) rfl rfl Try.func13 (by kernel_rfl) rfl #[.slice Ao85 y269.length co85] rfl (by (try simp only [List.map_toArray, List.map_cons, List.map_nil]); first | done | rfl | (simp only [List.length_drop, List.length_take]; rfl)) ?_; (with_reducible refine (bits_Get.calls kj16 _ _ y269 t322 true _ ?side1 ?side2 A73.out).mono ?_); (case side1 => repeat (first | exact (Kd.R_reads' HO_10.out).2.2 | (with_reducible refine Kd.C_alloc ?_ _) | (with_reducible refine Kd.C_drewN ?_ _) | (with_reducible refine Kd.C_drew ?_))); (case side2 => exact (Kd.R_reads' HO_10.out).2.1); rintro e w' ⟨rfl, ⟨nd, rfl⟩⟩; refine ⟨_, rfl, ?_⟩) | ((with_reducible refine gate_callee (f := 13) rfl ?_); refine goesL_ (some 77) rfl rfl Try.func13 (by kernel_rfl) rfl #[.slice A0 l0.length c0] rfl (by (try simp only [List.map_toArray, List.map_cons, List.map_nil]); first | done | rfl | (simp only [List.length_drop, List.length_take]; rfl)) ?_; (with_reducible refine (bits_Get.calls kj16 _ _ l0 t324 true _ ?side1 ?side2 A74.out).mono ?_); (case side1 => repeat (first | exact (Kd.C_below HR0.out (by repeat (first | (with_reducible first | exact HB.out | apply below_alloc | apply pw_below_drewN | apply below_drew1) | exact HB.out))) | (with_reducible refine Kd.C_alloc ?_ _) | (with_reducible refine Kd.C_drewN ?_ _) | (with_reducible refine Kd.C_drew ?_))); (case side2 => exact HC0.out); rintro e w' ⟨rfl, ⟨nd, rfl⟩⟩; refine ⟨_, rfl, ?_⟩) | ((with_reducible refine gate_callee (f := 13) rfl ?_); refine goesL_ (some 82) rfl rfl Try.func13 (by kernel_rfl) rfl #[.slice A1 l1.length c1] rfl (by (try simp only [List.map_toArray, List.map_cons, List.map_nil]); first | done | rfl | (simp only [List.length_drop, List.length_take]; rfl)) ?_; (with_reducible refine (bits_Get.calls kj16 _ _ l1 t326 t327 _ ?side1 ?side2 A75.out).mono ?_); (case side1 => repeat (first | exact (Kd.C_below HR1.out (by repeat (first | (with_reducible first | exact HB.out | apply below_alloc | apply pw_below_drewN | apply below_drew1) | exact HB.out))) | (with_reducible refine Kd.C_alloc ?_ _) | (with_reducible refine Kd.C_drewN ?_ _) | (with_reducible refine Kd.C_drew ?_))); (case side2 => exact HC1.out); rintro e w' ⟨rfl, ⟨nd, rfl⟩⟩; refine ⟨_, rfl, ?_⟩))
                                    go_ret
                                    exact ⟨by first | rfl | (simp [errW_none, errW_some] <;> rfl) | (simp only [← hji80, ← hji82]; first | rfl | (simp [errW_none, errW_some] <;> rfl)) | (simp [*, errW_none, errW_some] <;> rfl), by repeat (first | (with_reducible first | exact HB.out | apply below_alloc | apply pw_below_drewN | apply below_drew1) | exact HB.out)⟩
                                  · rw [if_neg c84] at H
                                    exact absurd H (by simp)
                              · rw [if_neg c81] at H
                                exact absurd H (by simp)
                            · replace c79 := Bool.eq_false_iff.mpr c79
                              subst c79
                              have H1 : (some true) = some r := by rw [if_neg (show ¬ (false = true) by decide)] at H; exact H
                              clear H
                              have H := H1
                              clear H1
                              obtain rfl := Option.some.inj H
                              obtain ⟨Ao86, co86, eo86⟩ := Kd.R_slice HO_10.out
                              subst eo86
                              go_wp2_with (first | ((with_reducible refine gate_callee (f := 13) rfl ?_); refine goesL_ (some 72) rfl rfl Try.func13 (by kernel_rfl) rfl #[.slice Ao86 y269.length co86] rfl (by (try simp only [List.map_toArray, List.map_cons, List.map_nil]); first | done | rfl | (simp only [List.length_drop, List.length_take]; rfl)) ?_; (with_reducible refine (bits_Get.calls kj16 _ _ y269 t322 false _ ?side1 ?side2 A73.out).mono ?_); (case side1 => repeat (first | exact (Kd.R_reads' HO_10.out).2.2 | (with_reducible refine Kd.C_alloc ?_ _) | (with_reducible refine Kd.C_drewN ?_ _) | (with_reducible refine Kd.C_drew ?_))); (case side2 => exact (Kd.R_reads' HO_10.out).2.1); rintro e w' ⟨rfl, ⟨nd, rfl⟩⟩; refine ⟨_, rfl, ?_⟩) | ((with_reducible refine gate_callee (f := 13) rfl ?_); refine goesL_ (some 77) rfl rfl Try.func13 (by kernel_rfl) rfl #[.slice A0 l0.length c0] rfl (by (try simp only [List.map_toArray, List.map_cons, List.map_nil]); first | done | rfl | (simp only [List.length_drop, List.length_take]; rfl)) ?_; (with_reducible refine (bits_Get.calls kj16 _ _ l0 t324 true _ ?side1 ?side2 A74.out).mono ?_); (case side1 => repeat (first | exact (Kd.C_below HR0.out (by repeat (first | (with_reducible first | exact HB.out | apply below_alloc | apply pw_below_drewN | apply below_drew1) | exact HB.out))) | (with_reducible refine Kd.C_alloc ?_ _) | (with_reducible refine Kd.C_drewN ?_ _) | (with_reducible refine Kd.C_drew ?_))); (case side2 => exact HC0.out); rintro e w' ⟨rfl, ⟨nd, rfl⟩⟩; refine ⟨_, rfl, ?_⟩) | ((with_reducible refine gate_callee (f := 13) rfl ?_); refine goesL_ (some 82) rfl rfl Try.func13 (by kernel_rfl) rfl #[.slice A1 l1.length c1] rfl (by (try simp only [List.map_toArray, List.map_cons, List.map_nil]); first | done | rfl | (simp only [List.length_drop, List.length_take]; rfl)) ?_; (with_reducible refine (bits_Get.calls kj16 _ _ l1 t326 t327 _ ?side1 ?side2 A75.out).mono ?_); (case side1 => repeat (first | exact (Kd.C_below HR1.out (by repeat (first | (with_reducible first | exact HB.out | apply below_alloc | apply pw_below_drewN | apply below_drew1) | exact HB.out))) | (with_reducible refine Kd.C_alloc ?_ _) | (with_reducible refine Kd.C_drewN ?_ _) | (with_reducible refine Kd.C_drew ?_))); (case side2 => exact HC1.out); rintro e w' ⟨rfl, ⟨nd, rfl⟩⟩; refine ⟨_, rfl, ?_⟩))
                              go_ret
                              exact ⟨by first | rfl | (simp [errW_none, errW_some] <;> rfl) | (simp [*, errW_none, errW_some] <;> rfl), by repeat (first | (with_reducible first | exact HB.out | apply below_alloc | apply pw_below_drewN | apply below_drew1) | exact HB.out)⟩
                          · rw [if_neg c78] at H
                            exact absurd H (by simp)
                        · replace c77 := Bool.eq_false_iff.mpr c77
                          subst c77
                          have H1 : (if (t323 == false) = true then (if t323 = true then (if (shr .i64 t322 (l1.length : Int)) = t324 then (if (shl .i64 1 (l1.length : Int)) = 0 then (none) else (if (Int.tmod t322 (shl .i64 1 (l1.length : Int))) = t326 then (some true) else (none))) else (none)) else (some true)) else (none)) = some r := by rw [if_neg (show ¬ (false = true) by decide)] at H; exact H
                          clear H
                          have H := H1
                          clear H1
                          by_cases c87 : (t323 == false) = true
                          · rw [if_pos c87] at H
                            have c87b0 : (t323 == false) = true := c87
                            (try (have c87b1 : decide (t323 = false) = true := by simpa using c87))
                            (try (have c87b2 : (t323 == false) = true := by simpa using c87))
                            clear c87
                            by_cases c88 : t323 = true
                            · subst c88
                              have H1 : (if (shr .i64 t322 (l1.length : Int)) = t324 then (if (shl .i64 1 (l1.length : Int)) = 0 then (none) else (if (Int.tmod t322 (shl .i64 1 (l1.length : Int))) = t326 then (some true) else (none))) else (none)) = some r := by rw [if_pos rfl] at H; exact H
                              clear H
                              have H := H1
                              clear H1
                              obtain ⟨ji89, hji89⟩ : ∃ j_ : Int, (shr .i64 t322 (l1.length : Int)) = j_ := ⟨_, rfl⟩
                              replace H : (if (ji89) = t324 then (if (shl .i64 1 (l1.length : Int)) = 0 then (none) else (if (Int.tmod t322 (shl .i64 1 (l1.length : Int))) = t326 then (some true) else (none))) else (none)) = some r := by first | (rw [hji89] at H; exact H) | (simp only [hji89] at H ⊢; exact H)
                              (try rw [hji89] at A73)
                              (try rw [hji89] at A74)
                              (try rw [hji89] at A75)
                              have hji89_ : (t322 / 2 ^ min (l1.length : Int).toNat 64) = ji89 := hji89
                              have hji89z : (l1.length : Int) ≤ 64 → (t322 / 2 ^ (l1.length : Int).toNat) = ji89 := shr_small hji89
                              have hji89p : (t322 / 2 ^ min l1.length 64) = ji89 := hji89_
                              have hji89q : (l1.length : Int) ≤ 64 → (t322 / 2 ^ l1.length) = ji89 := hji89z
                              by_cases c90 : (ji89) = t324
                              · rw [if_pos c90] at H
                                have c90b0 : ((ji89) == t324) = true := beq_iff_eq.mpr c90
                                have c90b1 : ((ji89) != t324) = false := bne_eq_false_iff_eq.mpr c90
                                clear c90
                                obtain ⟨ji91, hji91⟩ : ∃ j_ : Int, (shl .i64 1 (l1.length : Int)) = j_ := ⟨_, rfl⟩
                                replace H : (if (ji91) = 0 then (none) else (if (Int.tmod t322 (ji91)) = t326 then (some true) else (none))) = some r := by first | (rw [hji91] at H; exact H) | (simp only [hji91] at H ⊢; exact H)
                                (try rw [hji91] at A73)
                                (try rw [hji91] at A74)
                                (try rw [hji91] at A75)
                                have hji91_ : (IntKind.i64.wrap (1 * 2 ^ min (l1.length : Int).toNat 64)) = ji91 := hji91
                                have hji91z : (l1.length : Int) ≤ 64 → (IntKind.i64.wrap (1 * 2 ^ (l1.length : Int).toNat)) = ji91 := shl_small hji91
                                have hji91p : (IntKind.i64.wrap (1 * 2 ^ min l1.length 64)) = ji91 := hji91_
                                have hji91q : (l1.length : Int) ≤ 64 → (IntKind.i64.wrap (1 * 2 ^ l1.length)) = ji91 := hji91z
                                have hji91r : (IntKind.i64.wrap (2 ^ min l1.length 64)) = ji91 := by have h_ := hji91p; rw [Int.one_mul] at h_; exact h_
                                have hji91s : (l1.length : Int) ≤ 64 → (IntKind.i64.wrap (2 ^ l1.length)) = ji91 := fun hle_ => by have h_ := hji91q hle_; rw [Int.one_mul] at h_; exact h_
                                have hji91u : (IntKind.i64.wrap (2 ^ min (l1.length : Int).toNat 64)) = ji91 := by have h_ := hji91_; rw [Int.one_mul] at h_; exact h_
                                have hji91v : (l1.length : Int) ≤ 64 → (IntKind.i64.wrap (2 ^ (l1.length : Int).toNat)) = ji91 := fun hle_ => by have h_ := hji91z hle_; rw [Int.one_mul] at h_; exact h_
                                have hji91y : (wrap64 (1 * 2 ^ min (l1.length : Int).toNat 64)) = ji91 := (i64_w _).symm.trans hji91_
                                have hji91x : (l1.length : Int) ≤ 64 → (wrap64 (1 * 2 ^ (l1.length : Int).toNat)) = ji91 := fun h_ => (i64_w _).symm.trans (hji91z h_)
                                by_cases c92 : (ji91) = 0
                                · rw [if_pos c92] at H
                                  exact absurd H (by simp)
                                · rw [if_neg c92] at H
                                  have c92b0 : ((ji91) == 0) = false := beq_eq_false_iff_ne.mpr c92
                                  have c92b1 : ((ji91) != 0) = true := bne_iff_ne.mpr c92
                                  by_cases c93 : (Int.tmod t322 (ji91)) = t326
                                  · rw [if_pos c93] at H
                                    have c93b0 : ((Int.tmod t322 (ji91)) == t326) = true := beq_iff_eq.mpr c93
                                    have c93b1 : ((Int.tmod t322 (ji91)) != t326) = false := bne_eq_false_iff_eq.mpr c93
                                    clear c93
                                    obtain rfl := Option.some.inj H
                                    obtain ⟨Ao94, co94, eo94⟩ := Kd.R_slice HO_10.out
                                    subst eo94
                                    go_wp2_with (first | ((with_reducible refine gate_callee (f := 13) rfl ?_); refine goesL_ (some 72) rfl rfl Try.func13 (by kernel_rfl) rfl #[.slice Ao94 y269.length co94] rfl (by (try simp only [List.map_toArray, List.map_cons, List.map_nil]); first | done | rfl | (simp only [List.length_drop, List.length_take]; rfl)) ?_; (with_reducible refine (bits_Get.calls kj16 _ _ y269 t322 true _ ?side1 ?side2 A73.out).mono ?_); (case side1 => repeat (first | exact (Kd.R_reads' HO_10.out).2.2 | (with_reducible refine Kd.C_alloc ?_ _) | (with_reducible refine Kd.C_drewN ?_ _) | (with_reducible refine Kd.C_drew ?_))); (case side2 => exact (Kd.R_reads' HO_10.out).2.1); rintro e w' ⟨rfl, ⟨nd, rfl⟩⟩; refine ⟨_, rfl, ?_⟩) | ((with_reducible refine gate_callee (f := 13) rfl ?_); refine goesL_ (some 77) rfl rfl Try.func13 (by kernel_rfl) rfl #[.slice A0 l0.length c0] rfl (by (try simp only [List.map_toArray, List.map_cons, List.map_nil]); first | done | rfl | (simp only [List.length_drop, List.length_take]; rfl)) ?_; (with_reducible refine (bits_Get.calls kj16 _ _ l0 t324 false _ ?side1 ?side2 A74.out).mono ?_); (case side1 => repeat (first | exact (Kd.C_below HR0.out (by repeat (first | (with_reducible first | exact HB.out | apply below_alloc | apply pw_below_drewN | apply below_drew1) | exact HB.out))) | (with_reducible refine Kd.C_alloc ?_ _) | (with_reducible refine Kd.C_drewN ?_ _) | (with_reducible refine Kd.C_drew ?_))); (case side2 => exact HC0.out); rintro e w' ⟨rfl, ⟨nd, rfl⟩⟩; refine ⟨_, rfl, ?_⟩) | ((with_reducible refine gate_callee (f := 13) rfl ?_); refine goesL_ (some 82) rfl rfl Try.func13 (by kernel_rfl) rfl #[.slice A1 l1.length c1] rfl (by (try simp only [List.map_toArray, List.map_cons, List.map_nil]); first | done | rfl | (simp only [List.length_drop, List.length_take]; rfl)) ?_; (with_reducible refine (bits_Get.calls kj16 _ _ l1 t326 t327 _ ?side1 ?side2 A75.out).mono ?_); (case side1 => repeat (first | exact (Kd.C_below HR1.out (by repeat (first | (with_reducible first | exact HB.out | apply below_alloc | apply pw_below_drewN | apply below_drew1) | exact HB.out))) | (with_reducible refine Kd.C_alloc ?_ _) | (with_reducible refine Kd.C_drewN ?_ _) | (with_reducible refine Kd.C_drew ?_))); (case side2 => exact HC1.out); rintro e w' ⟨rfl, ⟨nd, rfl⟩⟩; refine ⟨_, rfl, ?_⟩))
                                    go_ret
                                    exact ⟨by first | rfl | (simp [errW_none, errW_some] <;> rfl) | (simp only [← hji89, ← hji91]; first | rfl | (simp [errW_none, errW_some] <;> rfl)) | (simp [*, errW_none, errW_some] <;> rfl), by repeat (first | (with_reducible first | exact HB.out | apply below_alloc | apply pw_below_drewN | apply below_drew1) | exact HB.out)⟩
                                  · rw [if_neg c93] at H
                                    exact absurd H (by simp)
                              · rw [if_neg c90] at H
                                exact absurd H (by simp)
                            · replace c88 := Bool.eq_false_iff.mpr c88
                              subst c88
                              have H1 : (some true) = some r := by rw [if_neg (show ¬ (false = true) by decide)] at H; exact H
                              clear H
                              have H := H1
                              clear H1
                              obtain rfl := Option.some.inj H
                              obtain ⟨Ao95, co95, eo95⟩ := Kd.R_slice HO_10.out
                              subst eo95
                              go_wp2_with (first | ((with_reducible refine gate_callee (f := 13) rfl ?_); refine goesL_ (some 72) rfl rfl Try.func13 (by kernel_rfl) rfl #[.slice Ao95 y269.length co95] rfl (by (try simp only [List.map_toArray, List.map_cons, List.map_nil]); first | done | rfl | (simp only [List.length_drop, List.length_take]; rfl)) ?_; (with_reducible refine (bits_Get.calls kj16 _ _ y269 t322 false _ ?side1 ?side2 A73.out).mono ?_); (case side1 => repeat (first | exact (Kd.R_reads' HO_10.out).2.2 | (with_reducible refine Kd.C_alloc ?_ _) | (with_reducible refine Kd.C_drewN ?_ _) | (with_reducible refine Kd.C_drew ?_))); (case side2 => exact (Kd.R_reads' HO_10.out).2.1); rintro e w' ⟨rfl, ⟨nd, rfl⟩⟩; refine ⟨_, rfl, ?_⟩) | ((with_reducible refine gate_callee (f := 13) rfl ?_); refine goesL_ (some 77) rfl rfl Try.func13 (by kernel_rfl) rfl #[.slice A0 l0.length c0] rfl (by (try simp only [List.map_toArray, List.map_cons, List.map_nil]); first | done | rfl | (simp only [List.length_drop, List.length_take]; rfl)) ?_; (with_reducible refine (bits_Get.calls kj16 _ _ l0 t324 false _ ?side1 ?side2 A74.out).mono ?_); (case side1 => repeat (first | exact (Kd.C_below HR0.out (by repeat (first | (with_reducible first | exact HB.out | apply below_alloc | apply pw_below_drewN | apply below_drew1) | exact HB.out))) | (with_reducible refine Kd.C_alloc ?_ _) | (with_reducible refine Kd.C_drewN ?_ _) | (with_reducible refine Kd.C_drew ?_))); (case side2 => exact HC0.out); rintro e w' ⟨rfl, ⟨nd, rfl⟩⟩; refine ⟨_, rfl, ?_⟩) | ((with_reducible refine gate_callee (f := 13) rfl ?_); refine goesL_ (some 82) rfl rfl Try.func13 (by kernel_rfl) rfl #[.slice A1 l1.length c1] rfl (by (try simp only [List.map_toArray, List.map_cons, List.map_nil]); first | done | rfl | (simp only [List.length_drop, List.length_take]; rfl)) ?_; (with_reducible refine (bits_Get.calls kj16 _ _ l1 t326 t327 _ ?side1 ?side2 A75.out).mono ?_); (case side1 => repeat (first | exact (Kd.C_below HR1.out (by repeat (first | (with_reducible first | exact HB.out | apply below_alloc | apply pw_below_drewN | apply below_drew1) | exact HB.out))) | (with_reducible refine Kd.C_alloc ?_ _) | (with_reducible refine Kd.C_drewN ?_ _) | (with_reducible refine Kd.C_drew ?_))); (case side2 => exact HC1.out); rintro e w' ⟨rfl, ⟨nd, rfl⟩⟩; refine ⟨_, rfl, ?_⟩))
                              go_ret
                              exact ⟨by first | rfl | (simp [errW_none, errW_some] <;> rfl) | (simp [*, errW_none, errW_some] <;> rfl), by repeat (first | (with_reducible first | exact HB.out | apply below_alloc | apply pw_below_drewN | apply below_drew1) | exact HB.out)⟩
                          · rw [if_neg c87] at H
                            exact absurd H (by simp)
                      · replace c76 := Bool.eq_false_iff.mpr c76
                        subst c76
                        have H1 : (none) = some r := by rw [if_neg (show ¬ (false = true) by decide)] at H; exact H
                        clear H
                        have H := H1
                        clear H1
                        exact absurd H (by simp)
              · rw [if_neg c16] at H
                exact absurd H (by simp)
            · rw [if_neg c15] at H
              exact absurd H (by simp)
          · rw [if_neg c14] at H
            exact absurd H (by simp)
        · rw [if_neg c13] at H
          exact absurd H (by simp)

/-- THE ONE PURE STATEMENT of phaetonlaw01_BitsParts: yours. -/
def phaetonlaw01_BitsParts.Pure : Prop := ∀ (l0 : List Int) (l1 : List Int) (l2 : List Int) (l3 : List Int), l0.length ≤ maxLen → l0.length * 8 ≤ 140737488351232 → (∀ x ∈ l0, (Lit.int .i64 x).wf = true) → l1.length ≤ maxLen → l1.length * 8 ≤ 140737488351232 → (∀ x ∈ l1, (Lit.int .i64 x).wf = true) → l2.length ≤ maxLen → l2.length * 1 ≤ 140737488351232 → (∀ x ∈ l2, (Lit.int .u8 x).wf = true) → l3.length ≤ maxLen → l3.length * 1 ≤ 140737488351232 → (∀ x ∈ l3, (Lit.int .u8 x).wf = true) → ∃ k, phaetonlaw01_BitsParts.f k l0 l1 l2 l3 = some true
theorem phaetonlaw01_BitsParts.walk (P : phaetonlaw01_BitsParts.Pure) (a0 : Option Addr) (len0 cap0 : Nat) (z0 : List Int) (a1 : Option Addr) (len1 cap1 : Nat) (z1 : List Int) (a2 : Option Addr) (len2 cap2 : Nat) (z2 : List Int) (a3 : Option Addr) (len3 cap3 : Nat) (z3 : List Int) (w : World) (w0 : (a0 = none ∧ len0 = 0 ∧ cap0 = 0 ∧ z0 = []) ∨ ∃ x, a0 = some x ∧ len0 ≤ cap0 ∧ cap0 ≤ maxLen ∧ z0.length = cap0 ∧ (∀ i, i < z0.length → w.cell? (x.add i) = some (.int .i64 (z0.getD i 0))) ∧ ∀ n ∈ z0, (Lit.int .i64 n).wf = true) (y0 : len0 * 8 ≤ 140737488351232) (w1 : (a1 = none ∧ len1 = 0 ∧ cap1 = 0 ∧ z1 = []) ∨ ∃ x, a1 = some x ∧ len1 ≤ cap1 ∧ cap1 ≤ maxLen ∧ z1.length = cap1 ∧ (∀ i, i < z1.length → w.cell? (x.add i) = some (.int .i64 (z1.getD i 0))) ∧ ∀ n ∈ z1, (Lit.int .i64 n).wf = true) (y1 : len1 * 8 ≤ 140737488351232) (w2 : (a2 = none ∧ len2 = 0 ∧ cap2 = 0 ∧ z2 = []) ∨ ∃ x, a2 = some x ∧ len2 ≤ cap2 ∧ cap2 ≤ maxLen ∧ z2.length = cap2 ∧ (∀ i, i < z2.length → w.cell? (x.add i) = some (.int .u8 (z2.getD i 0))) ∧ ∀ n ∈ z2, (Lit.int .u8 n).wf = true) (y2 : len2 * 1 ≤ 140737488351232) (w3 : (a3 = none ∧ len3 = 0 ∧ cap3 = 0 ∧ z3 = []) ∨ ∃ x, a3 = some x ∧ len3 ≤ cap3 ∧ cap3 ≤ maxLen ∧ z3.length = cap3 ∧ (∀ i, i < z3.length → w.cell? (x.add i) = some (.int .u8 (z3.getD i 0))) ∧ ∀ n ∈ z3, (Lit.int .u8 n).wf = true) (y3 : len3 * 1 ≤ 140737488351232) :
    Calls Try.prog 7 #[.slice a0 len0 cap0, .slice a1 len1 cap1, .slice a2 len2 cap2, .slice a3 len3 cap3] w fun e w' => e = .returned (.bool true) ∧ Below w.heap.size w w' := by
  obtain ⟨l0, rfl, hr0, hm0, hw0, hc0⟩ := ReadsInt.ofRowC w0
  obtain ⟨l1, rfl, hr1, hm1, hw1, hc1⟩ := ReadsInt.ofRowC w1
  obtain ⟨l2, rfl, hr2, hm2, hw2, hc2⟩ := ReadsInt.ofRowC w2
  obtain ⟨l3, rfl, hr3, hm3, hw3, hc3⟩ := ReadsInt.ofRowC w3
  obtain ⟨k, h⟩ := P l0 l1 l2 l3 hm0 y0 hw0 hm1 y1 hw1 hm2 y2 hw2 hm3 y3 hw3
  refine (phaetonlaw01_BitsParts.calls k _ _ l0 _ _ l1 _ _ l2 _ _ l3 true w (Kd.C_of_reads (d := (0 : Int)) (h1 := fun _ => rfl) hr0) hc0 (Kd.C_of_reads (d := (0 : Int)) (h1 := fun _ => rfl) hr1) hc1 (Kd.C_of_reads (d := (0 : Int)) (h1 := fun _ => rfl) hr2) hc2 (Kd.C_of_reads (d := (0 : Int)) (h1 := fun _ => rfl) hr3) hc3 h).mono ?_
  rintro e w' ⟨rfl, hd⟩
  exact ⟨rfl, hd⟩

end Go.Proofs.Ytcakokhhpihmlaa.Px

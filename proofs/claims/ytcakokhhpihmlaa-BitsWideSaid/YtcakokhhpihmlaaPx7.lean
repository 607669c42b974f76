-- Written by myprint.py, a program of this session's, over the kit's print.py; not a text of print.sh's own.
import Derived.Test.YtcakokhhpihmlaaPx0
import Derived.Test.YtcakokhhpihmlaaPx1
import Derived.Test.YtcakokhhpihmlaaPx2
import Derived.Test.YtcakokhhpihmlaaPx3
namespace Go.Proofs.Ytcakokhhpihmlaa.Px
open Go.RowKit Go.Proofs.YtcakokhhpihmlaaW.PrintWords Go.Proofs.YtcakokhhpihmlaaW.PrintLast Go.Proofs.YtcakokhhpihmlaaW.PrintMore
attribute [local go_sem] max2_int min2_int max_two min_two max_three min_three max_four min_four   -- for this text's walks alone
set_option linter.unusedVariables false
set_option linter.unusedSimpArgs false

/-! ### phaetonlaw01_BitsOrder: function 8 -/
mutual
def phaetonlaw01_BitsOrder.j0 : Nat → Int → Int → Bool → List Int → List Int → Bool → Option (Bool)
  | 0, _, _, _, _, _, _ => none
  | k + 1, x0, x1, x5, x6, x8, x39 => if x39 = true then (none) else (phaetonlaw01_BitsOrder.l0 k x0 x1 x5 x6 x8 0)
def phaetonlaw01_BitsOrder.l0 : Nat → Int → Int → Bool → List Int → List Int → Int → Option (Bool)
  | 0, _, _, _, _, _, _ => none
  | k + 1, x0, x1, x5, x6, x8, x10 => if x10 < 32 then (if 0 ≤ x10 then (if x10 < (x6.length : Int) then (if x10 < (x8.length : Int) then (if (rd x6 x10) = (rd x8 x10) then (phaetonlaw01_BitsOrder.l0 k x0 x1 x5 x6 x8 (wrap64 (x10 + 1))) else (if x5 = true then (if (((rd x6 x10) == 0) == (decide (x0 < x1))) = true then (some true) else (none)) else (none))) else (none)) else (none)) else (none)) else (if x5 = true then (if x0 = x1 then (some true) else (none)) else (none))
end
def phaetonlaw01_BitsOrder.f (k : Nat) (a0 : Int) (a1 : Int) : Option (Bool) := (phaetonlaw01_head.f k).bind fun t328 => ((bits_Put.f (wrap64 (a0)) 32).bind fun bt329 => ((bits_Put.f (wrap64 (a1)) 32).bind fun bt333 => (if bt329.2 = true then (if bt333.2 = true then (if (bt329.1.length : Int) = 32 then (phaetonlaw01_BitsOrder.j0 k a0 a1 t328 bt329.1 bt333.1 ((bt333.1.length : Int) != 32)) else (phaetonlaw01_BitsOrder.j0 k a0 a1 t328 bt329.1 bt333.1 true)) else (phaetonlaw01_BitsOrder.j0 k a0 a1 t328 bt329.1 bt333.1 true)) else (phaetonlaw01_BitsOrder.j0 k a0 a1 t328 bt329.1 bt333.1 true))))
theorem phaetonlaw01_BitsOrder.mono_l : ∀ k, (∀ y0 y1 y2 y3 y4 y5, LeO (phaetonlaw01_BitsOrder.j0 k y0 y1 y2 y3 y4 y5) (phaetonlaw01_BitsOrder.j0 (k + 1) y0 y1 y2 y3 y4 y5)) ∧ (∀ y0 y1 y2 y3 y4 y5, LeO (phaetonlaw01_BitsOrder.l0 k y0 y1 y2 y3 y4 y5) (phaetonlaw01_BitsOrder.l0 (k + 1) y0 y1 y2 y3 y4 y5))
  | 0 => ⟨fun _ _ _ _ _ _ r h => by simp [phaetonlaw01_BitsOrder.j0] at h, fun _ _ _ _ _ _ r h => by simp [phaetonlaw01_BitsOrder.l0] at h⟩
  | k + 1 => by
    obtain ⟨ih0, ih1⟩ := phaetonlaw01_BitsOrder.mono_l k
    refine ⟨?_, ?_⟩
    · intro y0 y1 y2 y3 y4 y5
      unfold phaetonlaw01_BitsOrder.j0
      repeat' first
      | (with_reducible exact ih0 _ _ _ _ _ _)
      | (with_reducible exact ih1 _ _ _ _ _ _)
      | (with_reducible exact phaetonlaw01_head.mono _)
      | (with_reducible exact LeO.refl _)
      | (with_reducible exact LeO.none _)
      | (with_reducible refine LeO.ite ?_ ?_)
      | (with_reducible refine LeO.bind ?_ (fun _ => ?_))
      | exact ih0 _ _ _ _ _ _
      | exact ih1 _ _ _ _ _ _
      | exact phaetonlaw01_head.mono _
      | exact LeO.none _
      | refine LeO.ite ?_ ?_
      | refine LeO.bind ?_ (fun _ => ?_)
    · intro y0 y1 y2 y3 y4 y5
      unfold phaetonlaw01_BitsOrder.l0
      repeat' first
      | (with_reducible exact ih0 _ _ _ _ _ _)
      | (with_reducible exact ih1 _ _ _ _ _ _)
      | (with_reducible exact phaetonlaw01_head.mono _)
      | (with_reducible exact LeO.refl _)
      | (with_reducible exact LeO.none _)
      | (with_reducible refine LeO.ite ?_ ?_)
      | (with_reducible refine LeO.bind ?_ (fun _ => ?_))
      | exact ih0 _ _ _ _ _ _
      | exact ih1 _ _ _ _ _ _
      | exact phaetonlaw01_head.mono _
      | exact LeO.none _
      | refine LeO.ite ?_ ?_
      | refine LeO.bind ?_ (fun _ => ?_)
theorem phaetonlaw01_BitsOrder.mono : ∀ a0 a1 k, LeO (phaetonlaw01_BitsOrder.f k a0 a1) (phaetonlaw01_BitsOrder.f (k + 1) a0 a1) := by
  intro a0 a1 k
  obtain ⟨ih0, ih1⟩ := phaetonlaw01_BitsOrder.mono_l k
  unfold phaetonlaw01_BitsOrder.f
  repeat' first
      | (with_reducible exact ih0 _ _ _ _ _ _)
      | (with_reducible exact ih1 _ _ _ _ _ _)
      | (with_reducible exact phaetonlaw01_head.mono _)
      | (with_reducible exact LeO.refl _)
      | (with_reducible exact LeO.none _)
      | (with_reducible refine LeO.ite ?_ ?_)
      | (with_reducible refine LeO.bind ?_ (fun _ => ?_))
      | exact ih0 _ _ _ _ _ _
      | exact ih1 _ _ _ _ _ _
      | exact phaetonlaw01_head.mono _
      | exact LeO.none _
      | refine LeO.ite ?_ ?_
      | refine LeO.bind ?_ (fun _ => ?_)
set_option maxHeartbeats 8000000 in
set_option maxRecDepth 100000 in
theorem phaetonlaw01_BitsOrder.calls (k : Nat) (a0 : Int) (a1 : Int) (r : Bool) (w : World) (h : phaetonlaw01_BitsOrder.f k a0 a1 = some r) :
    Calls Try.prog 8 #[.int .u32 a0, .int .u32 a1] w fun e w' => e = .returned (.bool r) ∧ Below w.heap.size w w' := by
  have HB := Aside0.mk (Below.refl w.heap.size w)
  have H : ((phaetonlaw01_head.f k).bind fun t328 => ((bits_Put.f (wrap64 (a0)) 32).bind fun bt329 => ((bits_Put.f (wrap64 (a1)) 32).bind fun bt333 => (if bt329.2 = true then (if bt333.2 = true then (if (bt329.1.length : Int) = 32 then (phaetonlaw01_BitsOrder.j0 k a0 a1 t328 bt329.1 bt333.1 ((bt333.1.length : Int) != 32)) else (phaetonlaw01_BitsOrder.j0 k a0 a1 t328 bt329.1 bt333.1 true)) else (phaetonlaw01_BitsOrder.j0 k a0 a1 t328 bt329.1 bt333.1 true)) else (phaetonlaw01_BitsOrder.j0 k a0 a1 t328 bt329.1 bt333.1 true))))) = some r := h
  clear h
  replace H := Option.bind_eq_some_iff.mp H
  obtain ⟨t328, A30, H⟩ := H
  replace H : ((bits_Put.f (wrap64 (a0)) 32).bind fun bt329 => ((bits_Put.f (wrap64 (a1)) 32).bind fun bt333 => (if bt329.2 = true then (if bt333.2 = true then (if (bt329.1.length : Int) = 32 then (phaetonlaw01_BitsOrder.j0 k a0 a1 t328 bt329.1 bt333.1 ((bt333.1.length : Int) != 32)) else (phaetonlaw01_BitsOrder.j0 k a0 a1 t328 bt329.1 bt333.1 true)) else (phaetonlaw01_BitsOrder.j0 k a0 a1 t328 bt329.1 bt333.1 true)) else (phaetonlaw01_BitsOrder.j0 k a0 a1 t328 bt329.1 bt333.1 true)))) = some r := H
  have A3 := Aside0.mk A30
  clear A30
  replace H := Option.bind_eq_some_iff.mp H
  obtain ⟨⟨t329, t330⟩, A40, H⟩ := H
  replace H : ((bits_Put.f (wrap64 (a1)) 32).bind fun bt333 => (if t330 = true then (if bt333.2 = true then (if (t329.length : Int) = 32 then (phaetonlaw01_BitsOrder.j0 k a0 a1 t328 t329 bt333.1 ((bt333.1.length : Int) != 32)) else (phaetonlaw01_BitsOrder.j0 k a0 a1 t328 t329 bt333.1 true)) else (phaetonlaw01_BitsOrder.j0 k a0 a1 t328 t329 bt333.1 true)) else (phaetonlaw01_BitsOrder.j0 k a0 a1 t328 t329 bt333.1 true))) = some r := H
  have A4 := Aside0.mk A40
  clear A40
  replace H := Option.bind_eq_some_iff.mp H
  obtain ⟨⟨t333, t334⟩, A50, H⟩ := H
  replace H : (if t330 = true then (if t334 = true then (if (t329.length : Int) = 32 then (phaetonlaw01_BitsOrder.j0 k a0 a1 t328 t329 t333 ((t333.length : Int) != 32)) else (phaetonlaw01_BitsOrder.j0 k a0 a1 t328 t329 t333 true)) else (phaetonlaw01_BitsOrder.j0 k a0 a1 t328 t329 t333 true)) else (phaetonlaw01_BitsOrder.j0 k a0 a1 t328 t329 t333 true)) = some r := H
  have A5 := Aside0.mk A50
  clear A50
  have HC6 := Aside0.mk H
  clear H
  go_enter Try.func8, Try.ntmps8
  go_upto_region 4 with (first | (go_at_call 10; (with_reducible refine (phaetonlaw01_head.calls k  t328 _ A3.out).mono ?_); rintro e w7 ⟨rfl, hb⟩; have n0_ := Aside0.mk (below_step (by repeat (first | (with_reducible first | exact HB.out | apply below_alloc | apply pw_below_drewN | apply below_drew1) | exact HB.out)) hb); clear HB; have HB := n0_; clear n0_; (try clear hb); (try clear hb2); (try clear hk); (try clear hi)) | (go_at_call 11; (with_reducible refine (bits_Put.calls (wrap64 (a0)) 32 t329 t330 _ A4.out).mono ?_); rintro e w8 ⟨v331, rfl, ho0, hb⟩; have n0_ := Aside0.mk (Kd.R_lower ho0 (below_size (by repeat (first | (with_reducible first | exact HB.out | apply below_alloc | apply pw_below_drewN | apply below_drew1) | exact HB.out)))); have n1_ := Aside0.mk (below_step (by repeat (first | (with_reducible first | exact HB.out | apply below_alloc | apply pw_below_drewN | apply below_drew1) | exact HB.out)) hb); clear HB; have HO332 := n0_; have HB := n1_; clear n0_ n1_; (try clear hb); (try clear hb2); (try clear hk); (try clear hi); (try clear ho0)) | (go_at_call 11; (with_reducible refine (bits_Put.calls (wrap64 (a1)) 32 t333 t334 _ A5.out).mono ?_); rintro e w9 ⟨v335, rfl, ho0, hb⟩; have n0_ := Aside0.mk (Kd.R_elder' (by (with_reducible repeat (first | apply Kd.R_alloc | apply Kd.R_drewN | apply Kd.R_drew)); exact HO332.out) (Kd.R_base ho0) hb); have n1_ := Aside0.mk (Kd.R_lower (Kd.R_new' ho0 (Kd.R_lt (by (with_reducible repeat (first | apply Kd.R_alloc | apply Kd.R_drewN | apply Kd.R_drew)); exact HO332.out))) (below_size (by repeat (first | (with_reducible first | exact HB.out | apply below_alloc | apply pw_below_drewN | apply below_drew1) | exact HB.out)))); have n2_ := Aside0.mk (below_step (by repeat (first | (with_reducible first | exact HB.out | apply below_alloc | apply pw_below_drewN | apply below_drew1) | exact HB.out)) hb); clear HO332; clear HB; have HO332 := n0_; have HO336 := n1_; have HB := n2_; clear n0_ n1_ n2_; (try clear hb); (try clear hb2); (try clear hk); (try clear hi); (try clear ho0)))
  repeat (go_quiet (first | (go_at_call 10; (with_reducible refine (phaetonlaw01_head.calls k  t328 _ A3.out).mono ?_); rintro e w7 ⟨rfl, hb⟩; have n0_ := Aside0.mk (below_step (by repeat (first | (with_reducible first | exact HB.out | apply below_alloc | apply pw_below_drewN | apply below_drew1) | exact HB.out)) hb); clear HB; have HB := n0_; clear n0_; (try clear hb); (try clear hb2); (try clear hk); (try clear hi)) | (go_at_call 11; (with_reducible refine (bits_Put.calls (wrap64 (a0)) 32 t329 t330 _ A4.out).mono ?_); rintro e w8 ⟨v331, rfl, ho0, hb⟩; have n0_ := Aside0.mk (Kd.R_lower ho0 (below_size (by repeat (first | (with_reducible first | exact HB.out | apply below_alloc | apply pw_below_drewN | apply below_drew1) | exact HB.out)))); have n1_ := Aside0.mk (below_step (by repeat (first | (with_reducible first | exact HB.out | apply below_alloc | apply pw_below_drewN | apply below_drew1) | exact HB.out)) hb); clear HB; have HO332 := n0_; have HB := n1_; clear n0_ n1_; (try clear hb); (try clear hb2); (try clear hk); (try clear hi); (try clear ho0)) | (go_at_call 11; (with_reducible refine (bits_Put.calls (wrap64 (a1)) 32 t333 t334 _ A5.out).mono ?_); rintro e w9 ⟨v335, rfl, ho0, hb⟩; have n0_ := Aside0.mk (Kd.R_elder' (by (with_reducible repeat (first | apply Kd.R_alloc | apply Kd.R_drewN | apply Kd.R_drew)); exact HO332.out) (Kd.R_base ho0) hb); have n1_ := Aside0.mk (Kd.R_lower (Kd.R_new' ho0 (Kd.R_lt (by (with_reducible repeat (first | apply Kd.R_alloc | apply Kd.R_drewN | apply Kd.R_drew)); exact HO332.out))) (below_size (by repeat (first | (with_reducible first | exact HB.out | apply below_alloc | apply pw_below_drewN | apply below_drew1) | exact HB.out)))); have n2_ := Aside0.mk (below_step (by repeat (first | (with_reducible first | exact HB.out | apply below_alloc | apply pw_below_drewN | apply below_drew1) | exact HB.out)) hb); clear HO332; clear HB; have HO332 := n0_; have HO336 := n1_; have HB := n2_; clear n0_ n1_ n2_; (try clear hb); (try clear hb2); (try clear hk); (try clear hi); (try clear ho0))); go_upto_region 4 with (first | (go_at_call 10; (with_reducible refine (phaetonlaw01_head.calls k  t328 _ A3.out).mono ?_); rintro e w7 ⟨rfl, hb⟩; have n0_ := Aside0.mk (below_step (by repeat (first | (with_reducible first | exact HB.out | apply below_alloc | apply pw_below_drewN | apply below_drew1) | exact HB.out)) hb); clear HB; have HB := n0_; clear n0_; (try clear hb); (try clear hb2); (try clear hk); (try clear hi)) | (go_at_call 11; (with_reducible refine (bits_Put.calls (wrap64 (a0)) 32 t329 t330 _ A4.out).mono ?_); rintro e w8 ⟨v331, rfl, ho0, hb⟩; have n0_ := Aside0.mk (Kd.R_lower ho0 (below_size (by repeat (first | (with_reducible first | exact HB.out | apply below_alloc | apply pw_below_drewN | apply below_drew1) | exact HB.out)))); have n1_ := Aside0.mk (below_step (by repeat (first | (with_reducible first | exact HB.out | apply below_alloc | apply pw_below_drewN | apply below_drew1) | exact HB.out)) hb); clear HB; have HO332 := n0_; have HB := n1_; clear n0_ n1_; (try clear hb); (try clear hb2); (try clear hk); (try clear hi); (try clear ho0)) | (go_at_call 11; (with_reducible refine (bits_Put.calls (wrap64 (a1)) 32 t333 t334 _ A5.out).mono ?_); rintro e w9 ⟨v335, rfl, ho0, hb⟩; have n0_ := Aside0.mk (Kd.R_elder' (by (with_reducible repeat (first | apply Kd.R_alloc | apply Kd.R_drewN | apply Kd.R_drew)); exact HO332.out) (Kd.R_base ho0) hb); have n1_ := Aside0.mk (Kd.R_lower (Kd.R_new' ho0 (Kd.R_lt (by (with_reducible repeat (first | apply Kd.R_alloc | apply Kd.R_drewN | apply Kd.R_drew)); exact HO332.out))) (below_size (by repeat (first | (with_reducible first | exact HB.out | apply below_alloc | apply pw_below_drewN | apply below_drew1) | exact HB.out)))); have n2_ := Aside0.mk (below_step (by repeat (first | (with_reducible first | exact HB.out | apply below_alloc | apply pw_below_drewN | apply below_drew1) | exact HB.out)) hb); clear HO332; clear HB; have HO332 := n0_; have HO336 := n1_; have HB := n2_; clear n0_ n1_ n2_; (try clear hb); (try clear hb2); (try clear hk); (try clear hi); (try clear ho0))))
  (try simp only [Act.put, List.setIfInBounds_toArray, List.set_cons_zero, List.set_cons_succ])
  go_cut [39] (fun v39 wc => ∃ (kq : Nat) (x39_5 : Bool), v39 = .bool x39_5 ∧ Aside0 (phaetonlaw01_BitsOrder.j0 kq a0 a1 t328 t329 t333 x39_5 = some r) ∧ Aside0 (kq ≤ k) ∧ Aside0 (Kd.R (Kd.int .i64) 3 wc w.heap.size (fun k_ => some k_ ≠ (v335 : Value).ownBlock) v331 t329) ∧ Aside0 (Kd.R (Kd.int .i64) 3 wc w.heap.size (fun k_ => some k_ ≠ (v331 : Value).ownBlock) v335 t333) ∧ Aside0 (Below w.heap.size w wc))
  case first =>
    have H := HC6.out
    clear HC6
    by_cases c10 : t330 = true
    · subst c10
      have H1 : (if t334 = true then (if (t329.length : Int) = 32 then (phaetonlaw01_BitsOrder.j0 k a0 a1 t328 t329 t333 ((t333.length : Int) != 32)) else (phaetonlaw01_BitsOrder.j0 k a0 a1 t328 t329 t333 true)) else (phaetonlaw01_BitsOrder.j0 k a0 a1 t328 t329 t333 true)) = some r := by rw [if_pos rfl] at H; exact H
      clear H
      have H := H1
      clear H1
      by_cases c11 : t334 = true
      · subst c11
        have H1 : (if (t329.length : Int) = 32 then (phaetonlaw01_BitsOrder.j0 k a0 a1 t328 t329 t333 ((t333.length : Int) != 32)) else (phaetonlaw01_BitsOrder.j0 k a0 a1 t328 t329 t333 true)) = some r := by rw [if_pos rfl] at H; exact H
        clear H
        have H := H1
        clear H1
        by_cases c12 : (t329.length : Int) = 32
        · rw [if_pos c12] at H
          have c12b0 : ((t329.length : Int) == 32) = true := beq_iff_eq.mpr c12
          have c12b1 : ((t329.length : Int) != 32) = false := bne_eq_false_iff_eq.mpr c12
          clear c12
          (first | rw [c12b0] | (simp only [i64_w, i32_w]; rw [c12b0]) | skip)
          have H' := Aside0.mk H
          clear H
          obtain ⟨Ao13, co13, eo13⟩ := Kd.R_slice HO332.out
          subst eo13
          obtain ⟨Ao14, co14, eo14⟩ := Kd.R_slice HO336.out
          subst eo14
          go_wp2
          repeat (go_quiet (fail); try go_wp2)
          go_meet
          case rel => exact ⟨_, (((t333.length : Int) != 32)), (by first | rfl | (simp; done) | (simp [*]; done)), H', ⟨by first | omega | exact Nat.le_refl _⟩, ⟨by (with_reducible repeat (first | apply Kd.R_alloc | apply Kd.R_drewN | apply Kd.R_drew)); exact Kd.R_mono HO332.out (fun _ hk => hk.2)⟩, ⟨by (with_reducible repeat (first | apply Kd.R_alloc | apply Kd.R_drewN | apply Kd.R_drew)); exact Kd.R_mono HO336.out (fun _ hk => hk.2)⟩, ⟨by repeat (first | (with_reducible first | exact HB.out | apply below_alloc | apply pw_below_drewN | apply below_drew1) | exact HB.out)⟩⟩
        · rw [if_neg c12] at H
          have c12b0 : ((t329.length : Int) == 32) = false := beq_eq_false_iff_ne.mpr c12
          have c12b1 : ((t329.length : Int) != 32) = true := bne_iff_ne.mpr c12
          (first | rw [c12b0] | (simp only [i64_w, i32_w]; rw [c12b0]) | skip)
          have H' := Aside0.mk H
          clear H
          obtain ⟨Ao15, co15, eo15⟩ := Kd.R_slice HO332.out
          subst eo15
          go_wp2
          repeat (go_quiet (fail); try go_wp2)
          go_meet
          case rel => exact ⟨_, (true), (by first | rfl | (simp; done) | (simp [*]; done)), H', ⟨by first | omega | exact Nat.le_refl _⟩, ⟨by (with_reducible repeat (first | apply Kd.R_alloc | apply Kd.R_drewN | apply Kd.R_drew)); exact Kd.R_mono HO332.out (fun _ hk => hk.2)⟩, ⟨by (with_reducible repeat (first | apply Kd.R_alloc | apply Kd.R_drewN | apply Kd.R_drew)); exact Kd.R_mono HO336.out (fun _ hk => hk.2)⟩, ⟨by repeat (first | (with_reducible first | exact HB.out | apply below_alloc | apply pw_below_drewN | apply below_drew1) | exact HB.out)⟩⟩
      · replace c11 := Bool.eq_false_iff.mpr c11
        subst c11
        have H1 : (phaetonlaw01_BitsOrder.j0 k a0 a1 t328 t329 t333 true) = some r := by rw [if_neg (show ¬ (false = true) by decide)] at H; exact H
        clear H
        have H := H1
        clear H1
        have H' := Aside0.mk H
        clear H
        go_wp2
        repeat (go_quiet (fail); try go_wp2)
        go_meet
        case rel => exact ⟨_, (true), (by first | rfl | (simp; done) | (simp [*]; done)), H', ⟨by first | omega | exact Nat.le_refl _⟩, ⟨by (with_reducible repeat (first | apply Kd.R_alloc | apply Kd.R_drewN | apply Kd.R_drew)); exact Kd.R_mono HO332.out (fun _ hk => hk.2)⟩, ⟨by (with_reducible repeat (first | apply Kd.R_alloc | apply Kd.R_drewN | apply Kd.R_drew)); exact Kd.R_mono HO336.out (fun _ hk => hk.2)⟩, ⟨by repeat (first | (with_reducible first | exact HB.out | apply below_alloc | apply pw_below_drewN | apply below_drew1) | exact HB.out)⟩⟩
    · replace c10 := Bool.eq_false_iff.mpr c10
      subst c10
      have H1 : (phaetonlaw01_BitsOrder.j0 k a0 a1 t328 t329 t333 true) = some r := by rw [if_neg (show ¬ (false = true) by decide)] at H; exact H
      clear H
      have H := H1
      clear H1
      have H' := Aside0.mk H
      clear H
      go_wp2
      repeat (go_quiet (fail); try go_wp2)
      go_meet
      case rel => exact ⟨_, (true), (by first | rfl | (simp; done) | (simp [*]; done)), H', ⟨by first | omega | exact Nat.le_refl _⟩, ⟨by (with_reducible repeat (first | apply Kd.R_alloc | apply Kd.R_drewN | apply Kd.R_drew)); exact Kd.R_mono HO332.out (fun _ hk => hk.2)⟩, ⟨by (with_reducible repeat (first | apply Kd.R_alloc | apply Kd.R_drewN | apply Kd.R_drew)); exact Kd.R_mono HO336.out (fun _ hk => hk.2)⟩, ⟨by repeat (first | (with_reducible first | exact HB.out | apply below_alloc | apply pw_below_drewN | apply below_drew1) | exact HB.out)⟩⟩
  case rest =>
    clear HC6
    try clear c1
    try clear p2
    try clear p6
    try clear c8
    try clear c10
    try clear c11
    try clear c12
    try clear c12b0
    try clear c12b1
    obtain ⟨kq, x39_5, rfl, HA, HJ5, HO_6, HO_8, HB⟩ := hcut
    cases kq with
    | zero => exact absurd HA.out (by simp [phaetonlaw01_BitsOrder.j0])
    | succ kj5 =>
      have H := HA.out
      clear HA
      simp only [phaetonlaw01_BitsOrder.j0] at H
      by_cases c16 : x39_5 = true
      · subst c16
        have H1 : (none) = some r := by rw [if_pos rfl] at H; exact H
        clear H
        have H := H1
        clear H1
        exact absurd H (by simp)
      · replace c16 := Bool.eq_false_iff.mpr c16
        subst c16
        have H1 : (phaetonlaw01_BitsOrder.l0 kj5 a0 a1 t328 t329 t333 0) = some r := by rw [if_neg (show ¬ (false = true) by decide)] at H; exact H
        clear H
        have H := H1
        clear H1
        have H' := Aside0.mk H
        clear H
        go_wp2
        repeat (go_quiet (fail); try go_wp2)
        go_loopg [10] kj5 (fun kq v10 w' => ∃ (x10_2 : Int), v10 = .int .i64 x10_2 ∧ Aside0 (phaetonlaw01_BitsOrder.l0 kq a0 a1 t328 t329 t333 x10_2 = some r) ∧ Aside0 (kq ≤ kj5) ∧ Aside0 (Kd.R (Kd.int .i64) 3 w' w.heap.size (fun k_ => some k_ ≠ (v335 : Value).ownBlock) v331 t329) ∧ Aside0 (Kd.R (Kd.int .i64) 3 w' w.heap.size (fun k_ => some k_ ≠ (v331 : Value).ownBlock) v335 t333) ∧ Aside0 (Below w.heap.size w w'))
        case atStart => exact ⟨(0), (by first | rfl | (simp; done) | (simp [*]; done)), H', ⟨Nat.le_refl _⟩, ⟨by (with_reducible repeat (first | apply Kd.R_alloc | apply Kd.R_drewN | apply Kd.R_drew)); exact HO_6.out⟩, ⟨by (with_reducible repeat (first | apply Kd.R_alloc | apply Kd.R_drewN | apply Kd.R_drew)); exact HO_8.out⟩, ⟨by repeat (first | (with_reducible first | exact HB.out | apply below_alloc | apply pw_below_drewN | apply below_drew1) | exact HB.out)⟩⟩
        case round =>
          clear H'
          try clear c1
          try clear p2
          try clear p6
          try clear c8
          try clear c10
          try clear c11
          try clear c12
          try clear c12b0
          try clear c12b1
          try clear c16
          try clear p2
          try clear p6
          obtain ⟨x10_2, rfl, HA, HK2, HO_6, HO_8, HB⟩ := hrel
          cases gk with
          | zero => exact absurd HA.out (by simp [phaetonlaw01_BitsOrder.l0])
          | succ k2 =>
            have H := HA.out
            clear HA
            simp only [phaetonlaw01_BitsOrder.l0] at H
            by_cases c17 : x10_2 < 32
            · rw [if_pos c17] at H
              have c17b0 : decide (x10_2 < 32) = true := decide_eq_true c17
              clear c17
              by_cases c18 : 0 ≤ x10_2
              · rw [if_pos c18] at H
                have c18b0 : decide (0 ≤ x10_2) = true := decide_eq_true c18
                clear c18
                by_cases c19 : x10_2 < (t329.length : Int)
                · rw [if_pos c19] at H
                  have c19b0 : decide (x10_2 < (t329.length : Int)) = true := decide_eq_true c19
                  clear c19
                  by_cases c20 : x10_2 < (t333.length : Int)
                  · rw [if_pos c20] at H
                    have c20b0 : decide (x10_2 < (t333.length : Int)) = true := decide_eq_true c20
                    clear c20
                    by_cases c21 : (rd t329 x10_2) = (rd t333 x10_2)
                    · rw [if_pos c21] at H
                      have c21b0 : ((rd t329 x10_2) == (rd t333 x10_2)) = true := beq_iff_eq.mpr c21
                      have c21b1 : ((rd t329 x10_2) != (rd t333 x10_2)) = false := bne_eq_false_iff_eq.mpr c21
                      clear c21
                      have H' := Aside0.mk H
                      clear H
                      obtain ⟨Ao22, co22, eo22⟩ := Kd.R_slice HO_6.out
                      subst eo22
                      have p337 : 0 ≤ (x10_2 : Int) := of_decide_eq_true (by first | (with_reducible assumption) | assumption)
                      have q337 : x10_2 < (t329.length : Int) := of_decide_eq_true (by first | (with_reducible assumption) | assumption)
                      obtain ⟨ad337, e337, hx337_0⟩ := Kd.at_int (Kd.R_reads' HO_6.out).2.2 x10_2 p337 q337
                      cases e337
                      replace p337 := eq_true p337
                      replace q337 := eq_true q337
                      obtain ⟨Ao23, co23, eo23⟩ := Kd.R_slice HO_8.out
                      subst eo23
                      have p338 : 0 ≤ (x10_2 : Int) := of_decide_eq_true (by first | (with_reducible assumption) | assumption)
                      have q338 : x10_2 < (t333.length : Int) := of_decide_eq_true (by first | (with_reducible assumption) | assumption)
                      obtain ⟨ad338, e338, hx338_0⟩ := Kd.at_int (Kd.R_reads' HO_8.out).2.2 x10_2 p338 q338
                      cases e338
                      replace p338 := eq_true p338
                      replace q338 := eq_true q338
                      go_wp2
                      repeat (go_quiet (fail); try go_wp2)
                      go_roundg k2
                      case measure => have := HJ5.out; have := HK2.out; omega
                      case rel => exact ⟨(wrap64 (x10_2 + 1)), (by first | rfl | (simp; done) | (simp [*]; done)), H', ⟨by have := HJ5.out; have := HK2.out; omega⟩, ⟨by (with_reducible repeat (first | apply Kd.R_alloc | apply Kd.R_drewN | apply Kd.R_drew)); exact HO_6.out⟩, ⟨by (with_reducible repeat (first | apply Kd.R_alloc | apply Kd.R_drewN | apply Kd.R_drew)); exact HO_8.out⟩, ⟨by repeat (first | (with_reducible first | exact HB.out | apply below_alloc | apply pw_below_drewN | apply below_drew1) | exact HB.out)⟩⟩
                    · rw [if_neg c21] at H
                      have c21b0 : ((rd t329 x10_2) == (rd t333 x10_2)) = false := beq_eq_false_iff_ne.mpr c21
                      have c21b1 : ((rd t329 x10_2) != (rd t333 x10_2)) = true := bne_iff_ne.mpr c21
                      by_cases c24 : t328 = true
                      · subst c24
                        have H1 : (if (((rd t329 x10_2) == 0) == (decide (a0 < a1))) = true then (some true) else (none)) = some r := by rw [if_pos rfl] at H; exact H
                        clear H
                        have H := H1
                        clear H1
                        by_cases c25 : (((rd t329 x10_2) == 0) == (decide (a0 < a1))) = true
                        · rw [if_pos c25] at H
                          have c25b0 : (((rd t329 x10_2) == 0) == (decide (a0 < a1))) = true := c25
                          (try (have c25b1 : decide (((rd t329 x10_2) == 0) = (decide (a0 < a1))) = true := by simpa using c25))
                          (try (have c25b2 : (((rd t329 x10_2) == 0) == (decide (a0 < a1))) = true := by simpa using c25))
                          clear c25
                          obtain rfl := Option.some.inj H
                          obtain ⟨Ao26, co26, eo26⟩ := Kd.R_slice HO_6.out
                          subst eo26
                          have p337 : 0 ≤ (x10_2 : Int) := of_decide_eq_true (by first | (with_reducible assumption) | assumption)
                          have q337 : x10_2 < (t329.length : Int) := of_decide_eq_true (by first | (with_reducible assumption) | assumption)
                          obtain ⟨ad337, e337, hx337_0⟩ := Kd.at_int (Kd.R_reads' HO_6.out).2.2 x10_2 p337 q337
                          cases e337
                          replace p337 := eq_true p337
                          replace q337 := eq_true q337
                          obtain ⟨Ao27, co27, eo27⟩ := Kd.R_slice HO_8.out
                          subst eo27
                          have p338 : 0 ≤ (x10_2 : Int) := of_decide_eq_true (by first | (with_reducible assumption) | assumption)
                          have q338 : x10_2 < (t333.length : Int) := of_decide_eq_true (by first | (with_reducible assumption) | assumption)
                          obtain ⟨ad338, e338, hx338_0⟩ := Kd.at_int (Kd.R_reads' HO_8.out).2.2 x10_2 p338 q338
                          cases e338
                          replace p338 := eq_true p338
                          replace q338 := eq_true q338
                          have p339 : 0 ≤ (x10_2 : Int) := of_decide_eq_true (by first | (with_reducible assumption) | assumption)
                          have q339 : x10_2 < (t329.length : Int) := of_decide_eq_true (by first | (with_reducible assumption) | assumption)
                          obtain ⟨ad339, e339, hx339_0⟩ := Kd.at_int (Kd.R_reads' HO_6.out).2.2 x10_2 p339 q339
                          obtain rfl : ad337 = ad339 := (by injection e339)
                          replace p339 := eq_true p339
                          replace q339 := eq_true q339
                          go_wp2
                          repeat (go_quiet (fail); try go_wp2)
                          go_ret
                          exact ⟨by first | rfl | (simp [errW_none, errW_some] <;> rfl) | (simp [*, errW_none, errW_some] <;> rfl), by repeat (first | (with_reducible first | exact HB.out | apply below_alloc | apply pw_below_drewN | apply below_drew1) | exact HB.out)⟩
                        · rw [if_neg c25] at H
                          exact absurd H (by simp)
                      · replace c24 := Bool.eq_false_iff.mpr c24
                        subst c24
                        have H1 : (none) = some r := by rw [if_neg (show ¬ (false = true) by decide)] at H; exact H
                        clear H
                        have H := H1
                        clear H1
                        exact absurd H (by simp)
                  · rw [if_neg c20] at H
                    exact absurd H (by simp)
                · rw [if_neg c19] at H
                  exact absurd H (by simp)
              · rw [if_neg c18] at H
                exact absurd H (by simp)
            · rw [if_neg c17] at H
              have c17b0 : decide (x10_2 < 32) = false := decide_eq_false c17
              clear c17
              by_cases c28 : t328 = true
              · subst c28
                have H1 : (if a0 = a1 then (some true) else (none)) = some r := by rw [if_pos rfl] at H; exact H
                clear H
                have H := H1
                clear H1
                by_cases c29 : a0 = a1
                · rw [if_pos c29] at H
                  have c29b0 : (a0 == a1) = true := beq_iff_eq.mpr c29
                  have c29b1 : (a0 != a1) = false := bne_eq_false_iff_eq.mpr c29
                  clear c29
                  obtain rfl := Option.some.inj H
                  go_wp2
                  repeat (go_quiet (fail); try go_wp2)
                  go_ret
                  exact ⟨by first | rfl | (simp [errW_none, errW_some] <;> rfl) | (simp [*, errW_none, errW_some] <;> rfl), by repeat (first | (with_reducible first | exact HB.out | apply below_alloc | apply pw_below_drewN | apply below_drew1) | exact HB.out)⟩
                · rw [if_neg c29] at H
                  exact absurd H (by simp)
              · replace c28 := Bool.eq_false_iff.mpr c28
                subst c28
                have H1 : (none) = some r := by rw [if_neg (show ¬ (false = true) by decide)] at H; exact H
                clear H
                have H := H1
                clear H1
                exact absurd H (by simp)

/-- THE ONE PURE STATEMENT of phaetonlaw01_BitsOrder: yours. -/
def phaetonlaw01_BitsOrder.Pure : Prop := ∀ (a0 : Int) (a1 : Int), (Lit.int .u32 a0).wf = true → (Lit.int .u32 a1).wf = true → ∃ k, phaetonlaw01_BitsOrder.f k a0 a1 = some true
theorem phaetonlaw01_BitsOrder.walk (P : phaetonlaw01_BitsOrder.Pure) (a0 : Int) (a1 : Int) (w : World) (w0 : (Lit.int .u32 a0).wf = true) (w1 : (Lit.int .u32 a1).wf = true) :
    Calls Try.prog 8 #[.int .u32 a0, .int .u32 a1] w fun e w' => e = .returned (.bool true) ∧ Below w.heap.size w w' := by
  obtain ⟨k, h⟩ := P a0 a1 w0 w1
  refine (phaetonlaw01_BitsOrder.calls k a0 a1 true w h).mono ?_
  rintro e w' ⟨rfl, hd⟩
  exact ⟨rfl, hd⟩

/-! ### phaetonlaw01_BitsWide: function 9 -/
def phaetonlaw01_BitsWide.f (k : Nat) (a0 : Int) (a1 : Int) : Option (Bool) := (phaetonlaw01_head.f k).bind fun t340 => (if 0 ≤ (Int.tmod (wrap64 (a1)) 32) then (if (shl .i64 1 (Int.tmod (wrap64 (a1)) 32)) = 0 then (none) else ((bits_Put.f (Int.tmod (wrap64 (a0)) (shl .i64 1 (Int.tmod (wrap64 (a1)) 32))) (Int.tmod (wrap64 (a1)) 32)).bind fun bt341 => ((bits_Put.f (Int.tmod (wrap64 (a0)) (shl .i64 1 (Int.tmod (wrap64 (a1)) 32))) (wrap64 ((Int.tmod (wrap64 (a1)) 32) + 1))).bind fun bt345 => ((bits_Put.f (wrap64 (2 * (Int.tmod (wrap64 (a0)) (shl .i64 1 (Int.tmod (wrap64 (a1)) 32))))) (wrap64 ((Int.tmod (wrap64 (a1)) 32) + 1))).bind fun bt349 => (if t340 = true then (if bt341.2 = true then (if bt345.2 = true then (if bt349.2 = true then ((some (([0] : List Int) : List Int)).bind fun y353 => (if y353.length + bt341.1.length < 17592186044416 then ((phaetonref01_Same.f k bt345.1 (y353 ++ bt341.1)).bind fun t359 => (if t359 = true then ((some (([] : List Int) : List Int)).bind fun y360 => (if y360.length + bt341.1.length < 17592186044416 then ((some (y360 ++ bt341.1 : List Int)).bind fun y363 => (if y363.length < 17592186044416 then ((phaetonref01_Same.f k bt349.1 (y363 ++ [0])).bind fun t369 => (if t369 = true then (some true) else (none))) else (none))) else (none))) else (none))) else (none))) else (none)) else (none)) else (none)) else (none)))))) else (none))
theorem phaetonlaw01_BitsWide.mono : ∀ a0 a1 k, LeO (phaetonlaw01_BitsWide.f k a0 a1) (phaetonlaw01_BitsWide.f (k + 1) a0 a1) := by
  intro a0 a1 k
  unfold phaetonlaw01_BitsWide.f
  repeat' first
      | (with_reducible exact phaetonlaw01_head.mono _)
      | (with_reducible exact phaetonref01_Same.mono _ _ _)
      | (with_reducible exact LeO.refl _)
      | (with_reducible exact LeO.none _)
      | (with_reducible refine LeO.ite ?_ ?_)
      | (with_reducible refine LeO.bind ?_ (fun _ => ?_))
      | exact phaetonlaw01_head.mono _
      | exact phaetonref01_Same.mono _ _ _
      | exact LeO.none _
      | refine LeO.ite ?_ ?_
      | refine LeO.bind ?_ (fun _ => ?_)
set_option maxHeartbeats 8000000 in
set_option maxRecDepth 100000 in
theorem phaetonlaw01_BitsWide.calls (k : Nat) (a0 : Int) (a1 : Int) (r : Bool) (w : World) (h : phaetonlaw01_BitsWide.f k a0 a1 = some r) :
    Calls Try.prog 9 #[.int .u32 a0, .int .u8 a1] w fun e w' => e = .returned (.bool r) ∧ Below w.heap.size w w' := by
  have HB := Aside0.mk (Below.refl w.heap.size w)
  have H : ((phaetonlaw01_head.f k).bind fun t340 => (if 0 ≤ (Int.tmod (wrap64 (a1)) 32) then (if (shl .i64 1 (Int.tmod (wrap64 (a1)) 32)) = 0 then (none) else ((bits_Put.f (Int.tmod (wrap64 (a0)) (shl .i64 1 (Int.tmod (wrap64 (a1)) 32))) (Int.tmod (wrap64 (a1)) 32)).bind fun bt341 => ((bits_Put.f (Int.tmod (wrap64 (a0)) (shl .i64 1 (Int.tmod (wrap64 (a1)) 32))) (wrap64 ((Int.tmod (wrap64 (a1)) 32) + 1))).bind fun bt345 => ((bits_Put.f (wrap64 (2 * (Int.tmod (wrap64 (a0)) (shl .i64 1 (Int.tmod (wrap64 (a1)) 32))))) (wrap64 ((Int.tmod (wrap64 (a1)) 32) + 1))).bind fun bt349 => (if t340 = true then (if bt341.2 = true then (if bt345.2 = true then (if bt349.2 = true then ((some (([0] : List Int) : List Int)).bind fun y353 => (if y353.length + bt341.1.length < 17592186044416 then ((phaetonref01_Same.f k bt345.1 (y353 ++ bt341.1)).bind fun t359 => (if t359 = true then ((some (([] : List Int) : List Int)).bind fun y360 => (if y360.length + bt341.1.length < 17592186044416 then ((some (y360 ++ bt341.1 : List Int)).bind fun y363 => (if y363.length < 17592186044416 then ((phaetonref01_Same.f k bt349.1 (y363 ++ [0])).bind fun t369 => (if t369 = true then (some true) else (none))) else (none))) else (none))) else (none))) else (none))) else (none)) else (none)) else (none)) else (none)))))) else (none))) = some r := h
  clear h
  replace H := Option.bind_eq_some_iff.mp H
  obtain ⟨t340, A30, H⟩ := H
  replace H : (if 0 ≤ (Int.tmod (wrap64 (a1)) 32) then (if (shl .i64 1 (Int.tmod (wrap64 (a1)) 32)) = 0 then (none) else ((bits_Put.f (Int.tmod (wrap64 (a0)) (shl .i64 1 (Int.tmod (wrap64 (a1)) 32))) (Int.tmod (wrap64 (a1)) 32)).bind fun bt341 => ((bits_Put.f (Int.tmod (wrap64 (a0)) (shl .i64 1 (Int.tmod (wrap64 (a1)) 32))) (wrap64 ((Int.tmod (wrap64 (a1)) 32) + 1))).bind fun bt345 => ((bits_Put.f (wrap64 (2 * (Int.tmod (wrap64 (a0)) (shl .i64 1 (Int.tmod (wrap64 (a1)) 32))))) (wrap64 ((Int.tmod (wrap64 (a1)) 32) + 1))).bind fun bt349 => (if t340 = true then (if bt341.2 = true then (if bt345.2 = true then (if bt349.2 = true then ((some (([0] : List Int) : List Int)).bind fun y353 => (if y353.length + bt341.1.length < 17592186044416 then ((phaetonref01_Same.f k bt345.1 (y353 ++ bt341.1)).bind fun t359 => (if t359 = true then ((some (([] : List Int) : List Int)).bind fun y360 => (if y360.length + bt341.1.length < 17592186044416 then ((some (y360 ++ bt341.1 : List Int)).bind fun y363 => (if y363.length < 17592186044416 then ((phaetonref01_Same.f k bt349.1 (y363 ++ [0])).bind fun t369 => (if t369 = true then (some true) else (none))) else (none))) else (none))) else (none))) else (none))) else (none)) else (none)) else (none)) else (none)))))) else (none)) = some r := H
  have A3 := Aside0.mk A30
  clear A30
  obtain ⟨ji4, hji4⟩ : ∃ j_ : Int, (Int.tmod (wrap64 (a1)) 32) = j_ := ⟨_, rfl⟩
  replace H : (if 0 ≤ (ji4) then (if (shl .i64 1 (ji4)) = 0 then (none) else ((bits_Put.f (Int.tmod (wrap64 (a0)) (shl .i64 1 (ji4))) (ji4)).bind fun bt341 => ((bits_Put.f (Int.tmod (wrap64 (a0)) (shl .i64 1 (ji4))) (wrap64 ((ji4) + 1))).bind fun bt345 => ((bits_Put.f (wrap64 (2 * (Int.tmod (wrap64 (a0)) (shl .i64 1 (ji4))))) (wrap64 ((ji4) + 1))).bind fun bt349 => (if t340 = true then (if bt341.2 = true then (if bt345.2 = true then (if bt349.2 = true then ((some (([0] : List Int) : List Int)).bind fun y353 => (if y353.length + bt341.1.length < 17592186044416 then ((phaetonref01_Same.f k bt345.1 (y353 ++ bt341.1)).bind fun t359 => (if t359 = true then ((some (([] : List Int) : List Int)).bind fun y360 => (if y360.length + bt341.1.length < 17592186044416 then ((some (y360 ++ bt341.1 : List Int)).bind fun y363 => (if y363.length < 17592186044416 then ((phaetonref01_Same.f k bt349.1 (y363 ++ [0])).bind fun t369 => (if t369 = true then (some true) else (none))) else (none))) else (none))) else (none))) else (none))) else (none)) else (none)) else (none)) else (none)))))) else (none)) = some r := by first | (rw [hji4] at H; exact H) | (simp only [hji4] at H ⊢; exact H)
  (try rw [hji4] at A3)
  by_cases c5 : 0 ≤ (ji4)
  · rw [if_pos c5] at H
    have c5b0 := eq_true c5
    have c5b1 : decide (0 ≤ (ji4)) = true := decide_eq_true c5
    have c5m : max (ji4) 0 = (ji4) := by omega
    clear c5
    obtain ⟨ji6, hji6⟩ : ∃ j_ : Int, (shl .i64 1 (ji4)) = j_ := ⟨_, rfl⟩
    replace H : (if (ji6) = 0 then (none) else ((bits_Put.f (Int.tmod (wrap64 (a0)) (ji6)) (ji4)).bind fun bt341 => ((bits_Put.f (Int.tmod (wrap64 (a0)) (ji6)) (wrap64 ((ji4) + 1))).bind fun bt345 => ((bits_Put.f (wrap64 (2 * (Int.tmod (wrap64 (a0)) (ji6)))) (wrap64 ((ji4) + 1))).bind fun bt349 => (if t340 = true then (if bt341.2 = true then (if bt345.2 = true then (if bt349.2 = true then ((some (([0] : List Int) : List Int)).bind fun y353 => (if y353.length + bt341.1.length < 17592186044416 then ((phaetonref01_Same.f k bt345.1 (y353 ++ bt341.1)).bind fun t359 => (if t359 = true then ((some (([] : List Int) : List Int)).bind fun y360 => (if y360.length + bt341.1.length < 17592186044416 then ((some (y360 ++ bt341.1 : List Int)).bind fun y363 => (if y363.length < 17592186044416 then ((phaetonref01_Same.f k bt349.1 (y363 ++ [0])).bind fun t369 => (if t369 = true then (some true) else (none))) else (none))) else (none))) else (none))) else (none))) else (none)) else (none)) else (none)) else (none)))))) = some r := by first | (rw [hji6] at H; exact H) | (simp only [hji6] at H ⊢; exact H)
    (try rw [hji6] at A3)
    have hji6_ : (IntKind.i64.wrap (1 * 2 ^ min (ji4).toNat 64)) = ji6 := hji6
    have hji6z : (ji4) ≤ 64 → (IntKind.i64.wrap (1 * 2 ^ (ji4).toNat)) = ji6 := shl_small hji6
    have hji6u : (IntKind.i64.wrap (2 ^ min (ji4).toNat 64)) = ji6 := by have h_ := hji6_; rw [Int.one_mul] at h_; exact h_
    have hji6v : (ji4) ≤ 64 → (IntKind.i64.wrap (2 ^ (ji4).toNat)) = ji6 := fun hle_ => by have h_ := hji6z hle_; rw [Int.one_mul] at h_; exact h_
    have hji6y : (wrap64 (1 * 2 ^ min (ji4).toNat 64)) = ji6 := (i64_w _).symm.trans hji6_
    have hji6x : (ji4) ≤ 64 → (wrap64 (1 * 2 ^ (ji4).toNat)) = ji6 := fun h_ => (i64_w _).symm.trans (hji6z h_)
    by_cases c7 : (ji6) = 0
    · rw [if_pos c7] at H
      exact absurd H (by simp)
    · rw [if_neg c7] at H
      have c7b0 : ((ji6) == 0) = false := beq_eq_false_iff_ne.mpr c7
      have c7b1 : ((ji6) != 0) = true := bne_iff_ne.mpr c7
      replace H := Option.bind_eq_some_iff.mp H
      obtain ⟨⟨t341, t342⟩, A80, H⟩ := H
      replace H : ((bits_Put.f (Int.tmod (wrap64 (a0)) (ji6)) (wrap64 ((ji4) + 1))).bind fun bt345 => ((bits_Put.f (wrap64 (2 * (Int.tmod (wrap64 (a0)) (ji6)))) (wrap64 ((ji4) + 1))).bind fun bt349 => (if t340 = true then (if t342 = true then (if bt345.2 = true then (if bt349.2 = true then ((some (([0] : List Int) : List Int)).bind fun y353 => (if y353.length + t341.length < 17592186044416 then ((phaetonref01_Same.f k bt345.1 (y353 ++ t341)).bind fun t359 => (if t359 = true then ((some (([] : List Int) : List Int)).bind fun y360 => (if y360.length + t341.length < 17592186044416 then ((some (y360 ++ t341 : List Int)).bind fun y363 => (if y363.length < 17592186044416 then ((phaetonref01_Same.f k bt349.1 (y363 ++ [0])).bind fun t369 => (if t369 = true then (some true) else (none))) else (none))) else (none))) else (none))) else (none))) else (none)) else (none)) else (none)) else (none)))) = some r := H
      have A8 := Aside0.mk A80
      clear A80
      replace H := Option.bind_eq_some_iff.mp H
      obtain ⟨⟨t345, t346⟩, A90, H⟩ := H
      replace H : ((bits_Put.f (wrap64 (2 * (Int.tmod (wrap64 (a0)) (ji6)))) (wrap64 ((ji4) + 1))).bind fun bt349 => (if t340 = true then (if t342 = true then (if t346 = true then (if bt349.2 = true then ((some (([0] : List Int) : List Int)).bind fun y353 => (if y353.length + t341.length < 17592186044416 then ((phaetonref01_Same.f k t345 (y353 ++ t341)).bind fun t359 => (if t359 = true then ((some (([] : List Int) : List Int)).bind fun y360 => (if y360.length + t341.length < 17592186044416 then ((some (y360 ++ t341 : List Int)).bind fun y363 => (if y363.length < 17592186044416 then ((phaetonref01_Same.f k bt349.1 (y363 ++ [0])).bind fun t369 => (if t369 = true then (some true) else (none))) else (none))) else (none))) else (none))) else (none))) else (none)) else (none)) else (none)) else (none))) = some r := H
      have A9 := Aside0.mk A90
      clear A90
      replace H := Option.bind_eq_some_iff.mp H
      obtain ⟨⟨t349, t350⟩, A100, H⟩ := H
      replace H : (if t340 = true then (if t342 = true then (if t346 = true then (if t350 = true then ((some (([0] : List Int) : List Int)).bind fun y353 => (if y353.length + t341.length < 17592186044416 then ((phaetonref01_Same.f k t345 (y353 ++ t341)).bind fun t359 => (if t359 = true then ((some (([] : List Int) : List Int)).bind fun y360 => (if y360.length + t341.length < 17592186044416 then ((some (y360 ++ t341 : List Int)).bind fun y363 => (if y363.length < 17592186044416 then ((phaetonref01_Same.f k t349 (y363 ++ [0])).bind fun t369 => (if t369 = true then (some true) else (none))) else (none))) else (none))) else (none))) else (none))) else (none)) else (none)) else (none)) else (none)) = some r := H
      have A10 := Aside0.mk A100
      clear A100
      by_cases c11 : t340 = true
      · subst c11
        have H1 : (if t342 = true then (if t346 = true then (if t350 = true then ((some (([0] : List Int) : List Int)).bind fun y353 => (if y353.length + t341.length < 17592186044416 then ((phaetonref01_Same.f k t345 (y353 ++ t341)).bind fun t359 => (if t359 = true then ((some (([] : List Int) : List Int)).bind fun y360 => (if y360.length + t341.length < 17592186044416 then ((some (y360 ++ t341 : List Int)).bind fun y363 => (if y363.length < 17592186044416 then ((phaetonref01_Same.f k t349 (y363 ++ [0])).bind fun t369 => (if t369 = true then (some true) else (none))) else (none))) else (none))) else (none))) else (none))) else (none)) else (none)) else (none)) = some r := by rw [if_pos rfl] at H; exact H
        clear H
        have H := H1
        clear H1
        by_cases c12 : t342 = true
        · subst c12
          have H1 : (if t346 = true then (if t350 = true then ((some (([0] : List Int) : List Int)).bind fun y353 => (if y353.length + t341.length < 17592186044416 then ((phaetonref01_Same.f k t345 (y353 ++ t341)).bind fun t359 => (if t359 = true then ((some (([] : List Int) : List Int)).bind fun y360 => (if y360.length + t341.length < 17592186044416 then ((some (y360 ++ t341 : List Int)).bind fun y363 => (if y363.length < 17592186044416 then ((phaetonref01_Same.f k t349 (y363 ++ [0])).bind fun t369 => (if t369 = true then (some true) else (none))) else (none))) else (none))) else (none))) else (none))) else (none)) else (none)) = some r := by rw [if_pos rfl] at H; exact H
          clear H
          have H := H1
          clear H1
          by_cases c13 : t346 = true
          · subst c13
            have H1 : (if t350 = true then ((some (([0] : List Int) : List Int)).bind fun y353 => (if y353.length + t341.length < 17592186044416 then ((phaetonref01_Same.f k t345 (y353 ++ t341)).bind fun t359 => (if t359 = true then ((some (([] : List Int) : List Int)).bind fun y360 => (if y360.length + t341.length < 17592186044416 then ((some (y360 ++ t341 : List Int)).bind fun y363 => (if y363.length < 17592186044416 then ((phaetonref01_Same.f k t349 (y363 ++ [0])).bind fun t369 => (if t369 = true then (some true) else (none))) else (none))) else (none))) else (none))) else (none))) else (none)) = some r := by rw [if_pos rfl] at H; exact H
            clear H
            have H := H1
            clear H1
            by_cases c14 : t350 = true
            · subst c14
              have H1 : ((some (([0] : List Int) : List Int)).bind fun y353 => (if y353.length + t341.length < 17592186044416 then ((phaetonref01_Same.f k t345 (y353 ++ t341)).bind fun t359 => (if t359 = true then ((some (([] : List Int) : List Int)).bind fun y360 => (if y360.length + t341.length < 17592186044416 then ((some (y360 ++ t341 : List Int)).bind fun y363 => (if y363.length < 17592186044416 then ((phaetonref01_Same.f k t349 (y363 ++ [0])).bind fun t369 => (if t369 = true then (some true) else (none))) else (none))) else (none))) else (none))) else (none))) = some r := by rw [if_pos rfl] at H; exact H
              clear H
              have H := H1
              clear H1
              obtain ⟨y353, hy353⟩ : ∃ y_ : List Int, y_ = (([0] : List Int)) := ⟨_, rfl⟩
              replace H : (if y353.length + t341.length < 17592186044416 then ((phaetonref01_Same.f k t345 (y353 ++ t341)).bind fun t359 => (if t359 = true then ((some (([] : List Int) : List Int)).bind fun y360 => (if y360.length + t341.length < 17592186044416 then ((some (y360 ++ t341 : List Int)).bind fun y363 => (if y363.length < 17592186044416 then ((phaetonref01_Same.f k t349 (y363 ++ [0])).bind fun t369 => (if t369 = true then (some true) else (none))) else (none))) else (none))) else (none))) else (none)) = some r := by first | (rw [hy353]; with_reducible exact H) | (have H2_ := (Option.bind_some _ _).symm.trans H; rw [hy353]; with_reducible exact H2_) | (have H2_ := (Option.bind_some _ _).symm.trans H; with_reducible exact H2_) | with_reducible exact H | (rw [hy353]; exact H) | exact H
              have Ny353 := Aside0.mk hy353
              clear hy353
              by_cases c15 : y353.length + t341.length < 17592186044416
              · rw [if_pos c15] at H
                have LMc15 := Aside0.mk c15
                clear c15
                obtain ⟨y356, hy356⟩ : ∃ y_ : List Int, y_ = (y353 ++ t341) := ⟨_, rfl⟩
                replace H : ((phaetonref01_Same.f k t345 y356).bind fun t359 => (if t359 = true then ((some (([] : List Int) : List Int)).bind fun y360 => (if y360.length + t341.length < 17592186044416 then ((some (y360 ++ t341 : List Int)).bind fun y363 => (if y363.length < 17592186044416 then ((phaetonref01_Same.f k t349 (y363 ++ [0])).bind fun t369 => (if t369 = true then (some true) else (none))) else (none))) else (none))) else (none))) = some r := by first | (rw [hy356]; with_reducible exact H) | (have H2_ := (Option.bind_some _ _).symm.trans H; rw [hy356]; with_reducible exact H2_) | (have H2_ := (Option.bind_some _ _).symm.trans H; with_reducible exact H2_) | with_reducible exact H | (rw [hy356]; exact H) | exact H
                have Ny356 := Aside0.mk hy356
                clear hy356
                replace H := Option.bind_eq_some_iff.mp H
                obtain ⟨t359, A160, H⟩ := H
                replace H : (if t359 = true then ((some (([] : List Int) : List Int)).bind fun y360 => (if y360.length + t341.length < 17592186044416 then ((some (y360 ++ t341 : List Int)).bind fun y363 => (if y363.length < 17592186044416 then ((phaetonref01_Same.f k t349 (y363 ++ [0])).bind fun t369 => (if t369 = true then (some true) else (none))) else (none))) else (none))) else (none)) = some r := H
                have A16 := Aside0.mk A160
                clear A160
                by_cases c17 : t359 = true
                · subst c17
                  have H1 : ((some (([] : List Int) : List Int)).bind fun y360 => (if y360.length + t341.length < 17592186044416 then ((some (y360 ++ t341 : List Int)).bind fun y363 => (if y363.length < 17592186044416 then ((phaetonref01_Same.f k t349 (y363 ++ [0])).bind fun t369 => (if t369 = true then (some true) else (none))) else (none))) else (none))) = some r := by rw [if_pos rfl] at H; exact H
                  clear H
                  have H := H1
                  clear H1
                  obtain ⟨y360, hy360⟩ : ∃ y_ : List Int, y_ = (([] : List Int)) := ⟨_, rfl⟩
                  replace H : (if y360.length + t341.length < 17592186044416 then ((some (y360 ++ t341 : List Int)).bind fun y363 => (if y363.length < 17592186044416 then ((phaetonref01_Same.f k t349 (y363 ++ [0])).bind fun t369 => (if t369 = true then (some true) else (none))) else (none))) else (none)) = some r := by first | (rw [hy360]; with_reducible exact H) | (have H2_ := (Option.bind_some _ _).symm.trans H; rw [hy360]; with_reducible exact H2_) | (have H2_ := (Option.bind_some _ _).symm.trans H; with_reducible exact H2_) | with_reducible exact H | (rw [hy360]; exact H) | exact H
                  have Ny360 := Aside0.mk hy360
                  clear hy360
                  by_cases c18 : y360.length + t341.length < 17592186044416
                  · rw [if_pos c18] at H
                    have LMc18 := Aside0.mk c18
                    clear c18
                    obtain ⟨y363, hy363⟩ : ∃ y_ : List Int, y_ = (y360 ++ t341) := ⟨_, rfl⟩
                    replace H : (if y363.length < 17592186044416 then ((phaetonref01_Same.f k t349 (y363 ++ [0])).bind fun t369 => (if t369 = true then (some true) else (none))) else (none)) = some r := by first | (rw [hy363]; with_reducible exact H) | (have H2_ := (Option.bind_some _ _).symm.trans H; rw [hy363]; with_reducible exact H2_) | (have H2_ := (Option.bind_some _ _).symm.trans H; with_reducible exact H2_) | with_reducible exact H | (rw [hy363]; exact H) | exact H
                    have Ny363 := Aside0.mk hy363
                    clear hy363
                    by_cases c19 : y363.length < 17592186044416
                    · rw [if_pos c19] at H
                      have LMc19 := Aside0.mk c19
                      clear c19
                      obtain ⟨y366, hy366⟩ : ∃ y_ : List Int, y_ = (y363 ++ [0]) := ⟨_, rfl⟩
                      replace H : ((phaetonref01_Same.f k t349 y366).bind fun t369 => (if t369 = true then (some true) else (none))) = some r := by first | (rw [hy366]; with_reducible exact H) | (have H2_ := (Option.bind_some _ _).symm.trans H; rw [hy366]; with_reducible exact H2_) | (have H2_ := (Option.bind_some _ _).symm.trans H; with_reducible exact H2_) | with_reducible exact H | (rw [hy366]; exact H) | exact H
                      have Ny366 := Aside0.mk hy366
                      clear hy366
                      replace H := Option.bind_eq_some_iff.mp H
                      obtain ⟨t369, A200, H⟩ := H
                      replace H : (if t369 = true then (some true) else (none)) = some r := H
                      have A20 := Aside0.mk A200
                      clear A200
                      by_cases c21 : t369 = true
                      · subst c21
                        have H1 : (some true) = some r := by rw [if_pos rfl] at H; exact H
                        clear H
                        have H := H1
                        clear H1
                        obtain rfl := Option.some.inj H
                        go_enter Try.func9, Try.ntmps9
                        go_wp2_with (first | ((with_reducible refine gate_callee (f := 10) rfl ?_); refine goesL_ (some 14) rfl rfl Try.func10 (by kernel_rfl) rfl #[] rfl (by (try simp only [List.map_toArray, List.map_cons, List.map_nil]); first | done | rfl | (simp only [List.length_drop, List.length_take]; rfl)) ?_; (with_reducible refine (phaetonlaw01_head.calls k  true _ A3.out).mono ?_); rintro e w22 ⟨rfl, hb⟩; refine ⟨_, rfl, ?_⟩; have n0_ := Aside0.mk (below_step (by repeat (first | (with_reducible first | exact HB.out | apply below_alloc | apply pw_below_drewN | apply below_drew1) | exact HB.out)) hb); clear HB; have HB := n0_; clear n0_; (try clear hb); (try clear hb2); (try clear hk); (try clear hi)) | ((with_reducible refine gate_callee (f := 11) rfl ?_); refine goesL_ (some 26) rfl rfl Try.func11 (by kernel_rfl) rfl #[.int .i64 (Int.tmod (wrap64 (a0)) (ji6)), .int .i64 ji4] rfl (by (try simp only [List.map_toArray, List.map_cons, List.map_nil]); first | done | (simp only [hji4, hji6]; rfl) | rfl | (simp only [List.length_drop, List.length_take]; rfl)) ?_; (with_reducible refine (bits_Put.calls (Int.tmod (wrap64 (a0)) (ji6)) ji4 t341 true _ A8.out).mono ?_); rintro e w23 ⟨v343, rfl, ho0, hb⟩; refine ⟨_, rfl, ?_⟩; have n0_ := Aside0.mk (Kd.R_lower ho0 (below_size (by repeat (first | (with_reducible first | exact HB.out | apply below_alloc | apply pw_below_drewN | apply below_drew1) | exact HB.out)))); have n1_ := Aside0.mk (below_step (by repeat (first | (with_reducible first | exact HB.out | apply below_alloc | apply pw_below_drewN | apply below_drew1) | exact HB.out)) hb); clear HB; have HO344 := n0_; have HB := n1_; clear n0_ n1_; (try clear hb); (try clear hb2); (try clear hk); (try clear hi); (try clear ho0)) | ((with_reducible refine gate_callee (f := 11) rfl ?_); refine goesL_ (some 33) rfl rfl Try.func11 (by kernel_rfl) rfl #[.int .i64 (Int.tmod (wrap64 (a0)) (ji6)), .int .i64 (wrap64 ((ji4) + 1))] rfl (by (try simp only [List.map_toArray, List.map_cons, List.map_nil]); first | done | (simp only [hji4, hji6]; rfl) | rfl | (simp only [List.length_drop, List.length_take]; rfl)) ?_; (with_reducible refine (bits_Put.calls (Int.tmod (wrap64 (a0)) (ji6)) (wrap64 ((ji4) + 1)) t345 true _ A9.out).mono ?_); rintro e w24 ⟨v347, rfl, ho0, hb⟩; refine ⟨_, rfl, ?_⟩; have n0_ := Aside0.mk (Kd.R_elder' (by (with_reducible repeat (first | apply Kd.R_alloc | apply Kd.R_drewN | apply Kd.R_drew)); exact HO344.out) (Kd.R_base ho0) hb); have n1_ := Aside0.mk (Kd.R_lower (Kd.R_new' ho0 (Kd.R_lt (by (with_reducible repeat (first | apply Kd.R_alloc | apply Kd.R_drewN | apply Kd.R_drew)); exact HO344.out))) (below_size (by repeat (first | (with_reducible first | exact HB.out | apply below_alloc | apply pw_below_drewN | apply below_drew1) | exact HB.out)))); have n2_ := Aside0.mk (below_step (by repeat (first | (with_reducible first | exact HB.out | apply below_alloc | apply pw_below_drewN | apply below_drew1) | exact HB.out)) hb); clear HO344; clear HB; have HO344 := n0_; have HO348 := n1_; have HB := n2_; clear n0_ n1_ n2_; (try clear hb); (try clear hb2); (try clear hk); (try clear hi); (try clear ho0)) | ((with_reducible refine gate_callee (f := 11) rfl ?_); refine goesL_ (some 41) rfl rfl Try.func11 (by kernel_rfl) rfl #[.int .i64 (wrap64 (2 * (Int.tmod (wrap64 (a0)) (ji6)))), .int .i64 (wrap64 ((ji4) + 1))] rfl (by (try simp only [List.map_toArray, List.map_cons, List.map_nil]); first | done | (simp only [hji4, hji6]; rfl) | rfl | (simp only [List.length_drop, List.length_take]; rfl)) ?_; (with_reducible refine (bits_Put.calls (wrap64 (2 * (Int.tmod (wrap64 (a0)) (ji6)))) (wrap64 ((ji4) + 1)) t349 true _ A10.out).mono ?_); rintro e w25 ⟨v351, rfl, ho0, hb⟩; refine ⟨_, rfl, ?_⟩; have n0_ := Aside0.mk (Kd.R_elder' (by (with_reducible repeat (first | apply Kd.R_alloc | apply Kd.R_drewN | apply Kd.R_drew)); exact HO344.out) (Kd.R_base ho0) hb); have n1_ := Aside0.mk (Kd.R_elder' (by (with_reducible repeat (first | apply Kd.R_alloc | apply Kd.R_drewN | apply Kd.R_drew)); exact HO348.out) (Kd.R_base ho0) hb); have n2_ := Aside0.mk (Kd.R_lower (Kd.R_new' (Kd.R_new' ho0 (Kd.R_lt (by (with_reducible repeat (first | apply Kd.R_alloc | apply Kd.R_drewN | apply Kd.R_drew)); exact HO344.out))) (Kd.R_lt (by (with_reducible repeat (first | apply Kd.R_alloc | apply Kd.R_drewN | apply Kd.R_drew)); exact HO348.out))) (below_size (by repeat (first | (with_reducible first | exact HB.out | apply below_alloc | apply pw_below_drewN | apply below_drew1) | exact HB.out)))); have n3_ := Aside0.mk (below_step (by repeat (first | (with_reducible first | exact HB.out | apply below_alloc | apply pw_below_drewN | apply below_drew1) | exact HB.out)) hb); clear HO344; clear HO348; clear HB; have HO344 := n0_; have HO348 := n1_; have HO352 := n2_; have HB := n3_; clear n0_ n1_ n2_ n3_; (try clear hb); (try clear hb2); (try clear hk); (try clear hi); (try clear ho0)) | ((with_reducible refine gate_dst (N := 56) rfl ?_); (try (refine gate_guard (by rfl) ?_; dsimp only)); refine Kd.R_lit (Kd.int .i64) _ 3 ?hg (N := 56) ?hd (xs := ([0] : List Int)) (inner := [.int .i64 0]) (ok := fun _ => True) (okp := fun _ => True) ?hr ?hp (fun _ hk => hk) trivial (Below.refl _ _) (Nat.le_refl _) (by simp) ?_; (case hd => rfl); (case hg => rfl); (case hr => first | (go_simp; done) | (go_simp; rfl)); (case hp => exact (Reps.one (show Kd.M (Kd.int .i64) _ _ _ 0 [.int .i64 0] from rfl) (Reps.none _ _))); intro v354 w26 ho27 hb hg_ hnew_; clear hg_ hnew_; (first | rw [← Ny353.out] at ho27 | (simp only [Int.reduceToNat] at ho27; rw [← Ny353.out] at ho27)); have n0_ := Aside0.mk (Kd.R_elder' (by (with_reducible repeat (first | apply Kd.R_alloc | apply Kd.R_drewN | apply Kd.R_drew)); exact HO344.out) (Kd.R_base ho27) hb); have n1_ := Aside0.mk (Kd.R_elder' (by (with_reducible repeat (first | apply Kd.R_alloc | apply Kd.R_drewN | apply Kd.R_drew)); exact HO348.out) (Kd.R_base ho27) hb); have n2_ := Aside0.mk (Kd.R_elder' (by (with_reducible repeat (first | apply Kd.R_alloc | apply Kd.R_drewN | apply Kd.R_drew)); exact HO352.out) (Kd.R_base ho27) hb); have n3_ := Aside0.mk (Kd.R_lower (Kd.R_new' (Kd.R_new' (Kd.R_new' ho27 (Kd.R_lt (by (with_reducible repeat (first | apply Kd.R_alloc | apply Kd.R_drewN | apply Kd.R_drew)); exact HO344.out))) (Kd.R_lt (by (with_reducible repeat (first | apply Kd.R_alloc | apply Kd.R_drewN | apply Kd.R_drew)); exact HO348.out))) (Kd.R_lt (by (with_reducible repeat (first | apply Kd.R_alloc | apply Kd.R_drewN | apply Kd.R_drew)); exact HO352.out))) (below_size (by repeat (first | (with_reducible first | exact HB.out | apply below_alloc | apply pw_below_drewN | apply below_drew1) | exact HB.out)))); have n4_ := Aside0.mk (below_step (by repeat (first | (with_reducible first | exact HB.out | apply below_alloc | apply pw_below_drewN | apply below_drew1) | exact HB.out)) hb); clear HO344; clear HO348; clear HO352; clear HB; have HO344 := n0_; have HO348 := n1_; have HO352 := n2_; have HO355 := n3_; have HB := n4_; clear n0_ n1_ n2_ n3_ n4_; clear hb ho27; obtain ⟨Ao29, co29, eo29⟩ := Kd.R_slice HO344.out; subst eo29) | ((with_reducible refine gate_builtin (b := .append) (xs := #[.tmp 56, .tmp 57]) rfl ?_); (try (refine gate_guard (by rfl) ?_; dsimp only)); at_builtin; refine Kd.R_append_rows (Kd.int .i64) (w0 := w) w.heap.size rfl (.tmp 56) (.tmp 57) 22 3 (.int .i64 0) 8 rfl Try.underlying22 info3 rfl (by decide) (by omega) v354 y353 t341 _ _ _ (fun k_ => some k_ ≠ (.slice Ao29 t341.length co29 : Value).ownBlock ∧ some k_ ≠ (v347 : Value).ownBlock ∧ some k_ ≠ (v351 : Value).ownBlock) (fun _ => False) rfl rfl ?aO ?aR (fun _ _ h => h) (fun _ h => h.elim) ?aF ?aB ?aS ?aL ?_; (case aR => repeat (first | exact (Kd.R_reads' HO344.out).2.2 | (with_reducible refine Kd.C_alloc ?_ _) | (with_reducible refine Kd.C_drewN ?_ _) | (with_reducible refine Kd.C_drew ?_))); (case aB => exact (by repeat (first | (with_reducible first | exact HB.out | apply below_alloc | apply pw_below_drewN | apply below_drew1) | exact HB.out))); (case aF => exact (fun k_ hk => ⟨Kd.fresh' (Kd.R_lt (by (with_reducible repeat (first | apply Kd.R_alloc | apply Kd.R_drewN | apply Kd.R_drew)); exact HO344.out)) k_ hk, Kd.fresh' (Kd.R_lt (by (with_reducible repeat (first | apply Kd.R_alloc | apply Kd.R_drewN | apply Kd.R_drew)); exact HO348.out)) k_ hk, Kd.fresh' (Kd.R_lt (by (with_reducible repeat (first | apply Kd.R_alloc | apply Kd.R_drewN | apply Kd.R_drew)); exact HO352.out)) k_ hk⟩)); (case aO => exact (by (with_reducible repeat (first | apply Kd.R_alloc | apply Kd.R_drewN | apply Kd.R_drew)); exact Kd.R_mono HO355.out (fun _ hk => ⟨hk.1.1.2, ⟨hk.1.2, hk.2⟩⟩))); (case aS => exact (below_size (by repeat (first | (with_reducible first | exact HB.out | apply below_alloc | apply pw_below_drewN | apply below_drew1) | exact HB.out)))); (case aL => have := LMc15.out; omega); intro v357 w28 ho hb hg hat; rw [← Ny356.out] at ho; have n0_ := Aside0.mk (Kd.R_after (ok := (fun k_ => some k_ ≠ (v347 : Value).ownBlock ∧ some k_ ≠ (v351 : Value).ownBlock)) (by (with_reducible repeat (first | apply Kd.R_alloc | apply Kd.R_drewN | apply Kd.R_drew)); exact Kd.R_mono HO344.out (fun _ hk => ⟨⟨hk.1.1.2, hk.1.2⟩, hk.2⟩)) hg hat); have n1_ := Aside0.mk (Kd.R_after (ok := (fun k_ => some k_ ≠ (.slice Ao29 t341.length co29 : Value).ownBlock ∧ some k_ ≠ (v351 : Value).ownBlock)) (by (with_reducible repeat (first | apply Kd.R_alloc | apply Kd.R_drewN | apply Kd.R_drew)); exact Kd.R_mono HO348.out (fun _ hk => ⟨⟨hk.1.1.2, hk.1.2⟩, hk.2⟩)) hg hat); have n2_ := Aside0.mk (Kd.R_after (ok := (fun k_ => some k_ ≠ (.slice Ao29 t341.length co29 : Value).ownBlock ∧ some k_ ≠ (v347 : Value).ownBlock)) (by (with_reducible repeat (first | apply Kd.R_alloc | apply Kd.R_drewN | apply Kd.R_drew)); exact Kd.R_mono HO352.out (fun _ hk => ⟨⟨hk.1.1.2, hk.1.2⟩, hk.2⟩)) hg hat); have n3_ := Aside0.mk (hb); have n4_ := Aside0.mk (ho); clear HO344; clear HO348; clear HO352; clear HB; clear HO355; have HO344 := n0_; have HO348 := n1_; have HO352 := n2_; have HB := n3_; have HO358 := n4_; clear n0_ n1_ n2_ n3_ n4_; clear ho hb hg hat; obtain ⟨Ao30, co30, eo30⟩ := Kd.R_slice HO348.out; subst eo30; obtain ⟨Ao31, co31, eo31⟩ := Kd.R_slice HO358.out; subst eo31) | (go_at_call 19; (with_reducible refine (phaetonref01_Same.calls k _ _ t345 _ _ y356 true _ ?side1 ?side2 ?side3 ?side4 A16.out).mono ?_); (case side1 => repeat (first | exact (Kd.R_reads' HO348.out).2.2 | (with_reducible refine Kd.C_alloc ?_ _) | (with_reducible refine Kd.C_drewN ?_ _) | (with_reducible refine Kd.C_drew ?_))); (case side2 => exact (Kd.R_reads' HO348.out).2.1); (case side3 => repeat (first | exact (Kd.R_reads' HO358.out).2.2 | (with_reducible refine Kd.C_alloc ?_ _) | (with_reducible refine Kd.C_drewN ?_ _) | (with_reducible refine Kd.C_drew ?_))); (case side4 => exact (Kd.R_reads' HO358.out).2.1); rintro e w' ⟨rfl, ⟨nd, rfl⟩⟩) | ((with_reducible refine gate_dst (N := 63) rfl ?_); (try (refine gate_guard (by rfl) ?_; dsimp only)); refine Kd.R_lit (Kd.int .i64) _ 3 ?hg (N := 63) ?hd (xs := ([] : List Int)) (inner := []) (ok := fun _ => True) (okp := fun _ => True) ?hr ?hp (fun _ hk => hk) trivial (Below.refl _ _) (Nat.le_refl _) (by simp) ?_; (case hd => rfl); (case hg => rfl); (case hr => first | (go_simp; done) | (go_simp; rfl)); (case hp => exact (Reps.none _ _)); intro v361 w32 ho33 hb hg_ hnew_; clear hg_ hnew_; (first | rw [← Ny360.out] at ho33 | (simp only [Int.reduceToNat] at ho33; rw [← Ny360.out] at ho33)); have n0_ := Aside0.mk (Kd.R_elder' (by (with_reducible repeat (first | apply Kd.R_alloc | apply Kd.R_drewN | apply Kd.R_drew)); exact HO344.out) (Kd.R_base ho33) hb); have n1_ := Aside0.mk (Kd.R_elder' (by (with_reducible repeat (first | apply Kd.R_alloc | apply Kd.R_drewN | apply Kd.R_drew)); exact HO348.out) (Kd.R_base ho33) hb); have n2_ := Aside0.mk (Kd.R_elder' (by (with_reducible repeat (first | apply Kd.R_alloc | apply Kd.R_drewN | apply Kd.R_drew)); exact HO352.out) (Kd.R_base ho33) hb); have n3_ := Aside0.mk (Kd.R_elder' (by (with_reducible repeat (first | apply Kd.R_alloc | apply Kd.R_drewN | apply Kd.R_drew)); exact HO358.out) (Kd.R_base ho33) hb); have n4_ := Aside0.mk (Kd.R_lower (Kd.R_new' (Kd.R_new' (Kd.R_new' (Kd.R_new' ho33 (Kd.R_lt (by (with_reducible repeat (first | apply Kd.R_alloc | apply Kd.R_drewN | apply Kd.R_drew)); exact HO344.out))) (Kd.R_lt (by (with_reducible repeat (first | apply Kd.R_alloc | apply Kd.R_drewN | apply Kd.R_drew)); exact HO348.out))) (Kd.R_lt (by (with_reducible repeat (first | apply Kd.R_alloc | apply Kd.R_drewN | apply Kd.R_drew)); exact HO352.out))) (Kd.R_lt (by (with_reducible repeat (first | apply Kd.R_alloc | apply Kd.R_drewN | apply Kd.R_drew)); exact HO358.out))) (below_size (by repeat (first | (with_reducible first | exact HB.out | apply below_alloc | apply pw_below_drewN | apply below_drew1) | exact HB.out)))); have n5_ := Aside0.mk (below_step (by repeat (first | (with_reducible first | exact HB.out | apply below_alloc | apply pw_below_drewN | apply below_drew1) | exact HB.out)) hb); clear HO344; clear HO348; clear HO352; clear HO358; clear HB; have HO344 := n0_; have HO348 := n1_; have HO352 := n2_; have HO358 := n3_; have HO362 := n4_; have HB := n5_; clear n0_ n1_ n2_ n3_ n4_ n5_; clear hb ho33) | ((with_reducible refine gate_builtin (b := .append) (xs := #[.tmp 63, .tmp 64]) rfl ?_); (try (refine gate_guard (by rfl) ?_; dsimp only)); at_builtin; refine Kd.R_append_rows (Kd.int .i64) (w0 := w) w.heap.size rfl (.tmp 63) (.tmp 64) 22 3 (.int .i64 0) 8 rfl Try.underlying22 info3 rfl (by decide) (by omega) v361 y360 t341 _ _ _ (fun k_ => some k_ ≠ (.slice Ao29 t341.length co29 : Value).ownBlock ∧ some k_ ≠ (.slice Ao30 t345.length co30 : Value).ownBlock ∧ some k_ ≠ (v351 : Value).ownBlock ∧ some k_ ≠ (.slice Ao31 y356.length co31 : Value).ownBlock) (fun _ => False) rfl rfl ?aO ?aR (fun _ _ h => h) (fun _ h => h.elim) ?aF ?aB ?aS ?aL ?_; (case aR => repeat (first | exact (Kd.R_reads' HO344.out).2.2 | (with_reducible refine Kd.C_alloc ?_ _) | (with_reducible refine Kd.C_drewN ?_ _) | (with_reducible refine Kd.C_drew ?_))); (case aB => exact (by repeat (first | (with_reducible first | exact HB.out | apply below_alloc | apply pw_below_drewN | apply below_drew1) | exact HB.out))); (case aF => exact (fun k_ hk => ⟨Kd.fresh' (Kd.R_lt (by (with_reducible repeat (first | apply Kd.R_alloc | apply Kd.R_drewN | apply Kd.R_drew)); exact HO344.out)) k_ hk, Kd.fresh' (Kd.R_lt (by (with_reducible repeat (first | apply Kd.R_alloc | apply Kd.R_drewN | apply Kd.R_drew)); exact HO348.out)) k_ hk, Kd.fresh' (Kd.R_lt (by (with_reducible repeat (first | apply Kd.R_alloc | apply Kd.R_drewN | apply Kd.R_drew)); exact HO352.out)) k_ hk, Kd.fresh' (Kd.R_lt (by (with_reducible repeat (first | apply Kd.R_alloc | apply Kd.R_drewN | apply Kd.R_drew)); exact HO358.out)) k_ hk⟩)); (case aO => exact (by (with_reducible repeat (first | apply Kd.R_alloc | apply Kd.R_drewN | apply Kd.R_drew)); exact Kd.R_mono HO362.out (fun _ hk => ⟨hk.1.1.1.2, ⟨hk.1.1.2, ⟨hk.1.2, hk.2⟩⟩⟩))); (case aS => exact (below_size (by repeat (first | (with_reducible first | exact HB.out | apply below_alloc | apply pw_below_drewN | apply below_drew1) | exact HB.out)))); (case aL => have := LMc18.out; omega); intro v364 w34 ho hb hg hat; rw [← Ny363.out] at ho; have n0_ := Aside0.mk (Kd.R_after (ok := (fun k_ => some k_ ≠ (.slice Ao30 t345.length co30 : Value).ownBlock ∧ some k_ ≠ (v351 : Value).ownBlock ∧ some k_ ≠ (.slice Ao31 y356.length co31 : Value).ownBlock)) (by (with_reducible repeat (first | apply Kd.R_alloc | apply Kd.R_drewN | apply Kd.R_drew)); exact Kd.R_mono HO344.out (fun _ hk => ⟨⟨hk.1.1.1, ⟨hk.1.1.2, hk.1.2⟩⟩, hk.2⟩)) hg hat); have n1_ := Aside0.mk (Kd.R_after (ok := (fun k_ => some k_ ≠ (.slice Ao29 t341.length co29 : Value).ownBlock ∧ some k_ ≠ (v351 : Value).ownBlock ∧ some k_ ≠ (.slice Ao31 y356.length co31 : Value).ownBlock)) (by (with_reducible repeat (first | apply Kd.R_alloc | apply Kd.R_drewN | apply Kd.R_drew)); exact Kd.R_mono HO348.out (fun _ hk => ⟨⟨hk.1.1.1, ⟨hk.1.1.2, hk.1.2⟩⟩, hk.2⟩)) hg hat); have n2_ := Aside0.mk (Kd.R_after (ok := (fun k_ => some k_ ≠ (.slice Ao29 t341.length co29 : Value).ownBlock ∧ some k_ ≠ (.slice Ao30 t345.length co30 : Value).ownBlock ∧ some k_ ≠ (.slice Ao31 y356.length co31 : Value).ownBlock)) (by (with_reducible repeat (first | apply Kd.R_alloc | apply Kd.R_drewN | apply Kd.R_drew)); exact Kd.R_mono HO352.out (fun _ hk => ⟨⟨hk.1.1.1, ⟨hk.1.1.2, hk.1.2⟩⟩, hk.2⟩)) hg hat); have n3_ := Aside0.mk (Kd.R_after (ok := (fun k_ => some k_ ≠ (.slice Ao29 t341.length co29 : Value).ownBlock ∧ some k_ ≠ (.slice Ao30 t345.length co30 : Value).ownBlock ∧ some k_ ≠ (v351 : Value).ownBlock)) (by (with_reducible repeat (first | apply Kd.R_alloc | apply Kd.R_drewN | apply Kd.R_drew)); exact HO358.out) hg hat); have n4_ := Aside0.mk (hb); have n5_ := Aside0.mk (ho); clear HO344; clear HO348; clear HO352; clear HO358; clear HB; clear HO362; have HO344 := n0_; have HO348 := n1_; have HO352 := n2_; have HO358 := n3_; have HB := n4_; have HO365 := n5_; clear n0_ n1_ n2_ n3_ n4_ n5_; clear ho hb hg hat) | ((with_reducible refine gate_builtin (b := .append) (xs := #[.tmp 65, .tmp 66]) rfl ?_); (try (refine gate_guard (by rfl) ?_; dsimp only)); at_builtin; refine Kd.R_append (Kd.int .i64) (w0 := w) w.heap.size rfl (.tmp 65) (.tmp 66) 22 3 (.int .i64 0) 8 rfl Try.underlying22 info3 rfl (by decide) (by omega) v364 y363 0 [.int .i64 0] (fun k_ => some k_ ≠ (.slice Ao29 t341.length co29 : Value).ownBlock ∧ some k_ ≠ (.slice Ao30 t345.length co30 : Value).ownBlock ∧ some k_ ≠ (v351 : Value).ownBlock ∧ some k_ ≠ (.slice Ao31 y356.length co31 : Value).ownBlock) (fun _ => False) rfl rfl ?aP (fun _ hk => hk.elim) ?aF ?aO ?aB ?aS ?aL ?_; (case aP => exact rfl); (case aB => exact (by repeat (first | (with_reducible first | exact HB.out | apply below_alloc | apply pw_below_drewN | apply below_drew1) | exact HB.out))); (case aF => exact (fun k_ hk => ⟨Kd.fresh' (Kd.R_lt (by (with_reducible repeat (first | apply Kd.R_alloc | apply Kd.R_drewN | apply Kd.R_drew)); exact HO344.out)) k_ hk, Kd.fresh' (Kd.R_lt (by (with_reducible repeat (first | apply Kd.R_alloc | apply Kd.R_drewN | apply Kd.R_drew)); exact HO348.out)) k_ hk, Kd.fresh' (Kd.R_lt (by (with_reducible repeat (first | apply Kd.R_alloc | apply Kd.R_drewN | apply Kd.R_drew)); exact HO352.out)) k_ hk, Kd.fresh' (Kd.R_lt (by (with_reducible repeat (first | apply Kd.R_alloc | apply Kd.R_drewN | apply Kd.R_drew)); exact HO358.out)) k_ hk⟩)); (case aO => exact (by (with_reducible repeat (first | apply Kd.R_alloc | apply Kd.R_drewN | apply Kd.R_drew)); exact HO365.out)); (case aS => exact (below_size (by repeat (first | (with_reducible first | exact HB.out | apply below_alloc | apply pw_below_drewN | apply below_drew1) | exact HB.out)))); (case aL => have := LMc19.out; omega); intro v367 w35 ho hb hg hat; rw [← Ny366.out] at ho; have n0_ := Aside0.mk (Kd.R_after (ok := (fun k_ => some k_ ≠ (.slice Ao30 t345.length co30 : Value).ownBlock ∧ some k_ ≠ (v351 : Value).ownBlock ∧ some k_ ≠ (.slice Ao31 y356.length co31 : Value).ownBlock)) (by (with_reducible repeat (first | apply Kd.R_alloc | apply Kd.R_drewN | apply Kd.R_drew)); exact HO344.out) hg hat); have n1_ := Aside0.mk (Kd.R_after (ok := (fun k_ => some k_ ≠ (.slice Ao29 t341.length co29 : Value).ownBlock ∧ some k_ ≠ (v351 : Value).ownBlock ∧ some k_ ≠ (.slice Ao31 y356.length co31 : Value).ownBlock)) (by (with_reducible repeat (first | apply Kd.R_alloc | apply Kd.R_drewN | apply Kd.R_drew)); exact HO348.out) hg hat); have n2_ := Aside0.mk (Kd.R_after (ok := (fun k_ => some k_ ≠ (.slice Ao29 t341.length co29 : Value).ownBlock ∧ some k_ ≠ (.slice Ao30 t345.length co30 : Value).ownBlock ∧ some k_ ≠ (.slice Ao31 y356.length co31 : Value).ownBlock)) (by (with_reducible repeat (first | apply Kd.R_alloc | apply Kd.R_drewN | apply Kd.R_drew)); exact HO352.out) hg hat); have n3_ := Aside0.mk (Kd.R_after (ok := (fun k_ => some k_ ≠ (.slice Ao29 t341.length co29 : Value).ownBlock ∧ some k_ ≠ (.slice Ao30 t345.length co30 : Value).ownBlock ∧ some k_ ≠ (v351 : Value).ownBlock)) (by (with_reducible repeat (first | apply Kd.R_alloc | apply Kd.R_drewN | apply Kd.R_drew)); exact HO358.out) hg hat); have n4_ := Aside0.mk (hb); have n5_ := Aside0.mk (ho); clear HO344; clear HO348; clear HO352; clear HO358; clear HB; clear HO365; have HO344 := n0_; have HO348 := n1_; have HO352 := n2_; have HO358 := n3_; have HB := n4_; have HO368 := n5_; clear n0_ n1_ n2_ n3_ n4_ n5_; clear ho hb hg hat; obtain ⟨Ao36, co36, eo36⟩ := Kd.R_slice HO352.out; subst eo36; obtain ⟨Ao37, co37, eo37⟩ := Kd.R_slice HO368.out; subst eo37) | (go_at_call 19; (with_reducible refine (phaetonref01_Same.calls k _ _ t349 _ _ y366 true _ ?side1 ?side2 ?side3 ?side4 A20.out).mono ?_); (case side1 => repeat (first | exact (Kd.R_reads' HO352.out).2.2 | (with_reducible refine Kd.C_alloc ?_ _) | (with_reducible refine Kd.C_drewN ?_ _) | (with_reducible refine Kd.C_drew ?_))); (case side2 => exact (Kd.R_reads' HO352.out).2.1); (case side3 => repeat (first | exact (Kd.R_reads' HO368.out).2.2 | (with_reducible refine Kd.C_alloc ?_ _) | (with_reducible refine Kd.C_drewN ?_ _) | (with_reducible refine Kd.C_drew ?_))); (case side4 => exact (Kd.R_reads' HO368.out).2.1); rintro e w' ⟨rfl, ⟨nd, rfl⟩⟩))
                        go_ret
                        exact ⟨by first | rfl | (simp [errW_none, errW_some] <;> rfl) | (simp only [← hji4, ← hji6]; first | rfl | (simp [errW_none, errW_some] <;> rfl)) | (simp [*, errW_none, errW_some] <;> rfl), by repeat (first | (with_reducible first | exact HB.out | apply below_alloc | apply pw_below_drewN | apply below_drew1) | exact HB.out)⟩
                      · replace c21 := Bool.eq_false_iff.mpr c21
                        subst c21
                        have H1 : (none) = some r := by rw [if_neg (show ¬ (false = true) by decide)] at H; exact H
                        clear H
                        have H := H1
                        clear H1
                        exact absurd H (by simp)
                    · rw [if_neg c19] at H
                      exact absurd H (by simp)
                  · rw [if_neg c18] at H
                    exact absurd H (by simp)
                · replace c17 := Bool.eq_false_iff.mpr c17
                  subst c17
                  have H1 : (none) = some r := by rw [if_neg (show ¬ (false = true) by decide)] at H; exact H
                  clear H
                  have H := H1
                  clear H1
                  exact absurd H (by simp)
              · rw [if_neg c15] at H
                exact absurd H (by simp)
            · replace c14 := Bool.eq_false_iff.mpr c14
              subst c14
              have H1 : (none) = some r := by rw [if_neg (show ¬ (false = true) by decide)] at H; exact H
              clear H
              have H := H1
              clear H1
              exact absurd H (by simp)
          · replace c13 := Bool.eq_false_iff.mpr c13
            subst c13
            have H1 : (none) = some r := by rw [if_neg (show ¬ (false = true) by decide)] at H; exact H
            clear H
            have H := H1
            clear H1
            exact absurd H (by simp)
        · replace c12 := Bool.eq_false_iff.mpr c12
          subst c12
          have H1 : (none) = some r := by rw [if_neg (show ¬ (false = true) by decide)] at H; exact H
          clear H
          have H := H1
          clear H1
          exact absurd H (by simp)
      · replace c11 := Bool.eq_false_iff.mpr c11
        subst c11
        have H1 : (none) = some r := by rw [if_neg (show ¬ (false = true) by decide)] at H; exact H
        clear H
        have H := H1
        clear H1
        exact absurd H (by simp)
  · rw [if_neg c5] at H
    exact absurd H (by simp)

/-- THE ONE PURE STATEMENT of phaetonlaw01_BitsWide: yours. -/
def phaetonlaw01_BitsWide.Pure : Prop := ∀ (a0 : Int) (a1 : Int), (Lit.int .u32 a0).wf = true → (Lit.int .u8 a1).wf = true → ∃ k, phaetonlaw01_BitsWide.f k a0 a1 = some true
theorem phaetonlaw01_BitsWide.walk (P : phaetonlaw01_BitsWide.Pure) (a0 : Int) (a1 : Int) (w : World) (w0 : (Lit.int .u32 a0).wf = true) (w1 : (Lit.int .u8 a1).wf = true) :
    Calls Try.prog 9 #[.int .u32 a0, .int .u8 a1] w fun e w' => e = .returned (.bool true) ∧ Below w.heap.size w w' := by
  obtain ⟨k, h⟩ := P a0 a1 w0 w1
  refine (phaetonlaw01_BitsWide.calls k a0 a1 true w h).mono ?_
  rintro e w' ⟨rfl, hd⟩
  exact ⟨rfl, hd⟩

end Go.Proofs.Ytcakokhhpihmlaa.Px

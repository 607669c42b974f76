-- Written by myprint.py, a program of this session's, over the kit's print.py; not a text of print.sh's own.
import Derived.Test.YtcdbndjicjghgaaHandCarry
import Derived.Test.YtcdbndjicjghgaaPx0
import Derived.Test.YtcdbndjicjghgaaPx2
import Derived.Test.YtcdbndjicjghgaaPx3
import Derived.Test.YtcdbndjicjghgaaPx5
namespace Go.Proofs.Ytcdbndjicjghgaa.Px
open Go.RowKit Go.Proofs.YtcdbndjicjghgaaW.PrintWords Go.Proofs.YtcdbndjicjghgaaW.PrintLast Go.Proofs.YtcdbndjicjghgaaW.PrintMore
attribute [local go_sem] max2_int min2_int max_two min_two max_three min_three max_four min_four   -- for this text's walks alone
set_option linter.unusedVariables false
set_option linter.unusedSimpArgs false

/-! ### phaetonlaw06_ArbTwins: function 8 -/
mutual
def phaetonlaw06_ArbTwins.j0 : Nat → List (S35) → List Int → Bool → Int → Bool → Option (Bool)
  | 0, _, _, _, _, _ => none
  | k + 1, x0, x1, x5, x6, x31 => if x31 = true then (none) else (if 0 ≤ x6 then (if x6 < (x0.length : Int) then ((phaetonref06_Made.f ((rd_T35 x0 x6).f0) ((rd_T35 x0 x6).f1) ((rd_T35 x0 x6).f2) 0 x1).bind fun bt469 => ((some (([] : List (S35)) : List (S35))).bind fun y477 => (if y477.length + x0.length < 2513169434916 then ((some (y477 ++ x0 : List (S35))).bind fun y480 => (if y480.length < 2513169434916 then ((some (y480 ++ [(⟨bt469.1, bt469.2.1, bt469.2.2.1, bt469.2.2.2.1, bt469.2.2.2.2⟩ : S35)] : List (S35))).bind fun y483 => ((arb_Lost.f y483).bind fun t486 => (if (t486.length : Int) = (y483.length : Int) then ((arb_Win.f y483).bind fun t489 => (if t489 = x6 then (if 0 ≤ (x0.length : Int) then (if (x0.length : Int) < (t486.length : Int) then (phaetonlaw06_ArbTwins.j1 k x5 y483 t486 ((rd t486 (x0.length : Int)) != (-1)) bt469.1 bt469.2.1 bt469.2.2.1 bt469.2.2.2.1 bt469.2.2.2.2) else (none)) else (none)) else (phaetonlaw06_ArbTwins.j1 k x5 y483 t486 true bt469.1 bt469.2.1 bt469.2.2.1 bt469.2.2.2.1 bt469.2.2.2.2))) else (phaetonlaw06_ArbTwins.j1 k x5 y483 t486 true bt469.1 bt469.2.1 bt469.2.2.1 bt469.2.2.2.1 bt469.2.2.2.2)))) else (none))) else (none)))) else (none)) else (none))
def phaetonlaw06_ArbTwins.j1 : Nat → Bool → List (S35) → List Int → Bool → Bool → Int → Bool → Int → List Int → Option (Bool)
  | 0, _, _, _, _, _, _, _, _, _ => none
  | k + 1, x5, x8, x9, x77, x477000, x477001, x477002, x477003, x477004 => if x77 = true then (none) else (phaetonlaw06_ArbTwins.l0 k x5 x8 x9 0 x477000 x477001 x477002 x477003 x477004)
def phaetonlaw06_ArbTwins.l0 : Nat → Bool → List (S35) → List Int → Int → Bool → Int → Bool → Int → List Int → Option (Bool)
  | 0, _, _, _, _, _, _, _, _, _ => none
  | k + 1, x5, x8, x9, x10, x477000, x477001, x477002, x477003, x477004 => if x10 < (x8.length : Int) then (if 0 ≤ x10 then (if x10 < (x9.length : Int) then ((phaetonref06_Rank.f k ((rd_T35 x8 x10).f0) ((rd_T35 x8 x10).f1) ((rd_T35 x8 x10).f2) ((rd_T35 x8 x10).f3) ((rd_T35 x8 x10).f4)).bind fun t493 => ((phaetonref06_Rank.f k x477000 x477001 x477002 x477003 x477004).bind fun t496 => ((phaetonref03_Ints.f k t493 t496).bind fun t499 => (if (((rd x9 x10) == (-1)) != t499) = true then (none) else (phaetonlaw06_ArbTwins.l0 k x5 x8 x9 (wrap64 (x10 + 1)) x477000 x477001 x477002 x477003 x477004))))) else (none)) else (none)) else (if x5 = true then (some true) else (none))
end
def phaetonlaw06_ArbTwins.f (k : Nat) (l0 : List (S35)) (l1 : List Int) : Option (Bool) := (phaetonlaw06_head.f k).bind fun t461 => ((phaetonref06_Frames.f k l0 9).bind fun t462 => ((arb_Win.f t462).bind fun t465 => (if (t462.length : Int) = 0 then (if t465 = (-1) then (if t461 = true then (some true) else (none)) else (none)) else (if t465 < 0 then (phaetonlaw06_ArbTwins.j0 k t462 l1 t461 t465 true) else (phaetonlaw06_ArbTwins.j0 k t462 l1 t461 t465 (decide (t465 ≥ (t462.length : Int))))))))
theorem phaetonlaw06_ArbTwins.mono_l : ∀ k, (∀ y0 y1 y2 y3 y4, LeO (phaetonlaw06_ArbTwins.j0 k y0 y1 y2 y3 y4) (phaetonlaw06_ArbTwins.j0 (k + 1) y0 y1 y2 y3 y4)) ∧ (∀ y0 y1 y2 y3 y4 y5 y6 y7 y8, LeO (phaetonlaw06_ArbTwins.j1 k y0 y1 y2 y3 y4 y5 y6 y7 y8) (phaetonlaw06_ArbTwins.j1 (k + 1) y0 y1 y2 y3 y4 y5 y6 y7 y8)) ∧ (∀ y0 y1 y2 y3 y4 y5 y6 y7 y8, LeO (phaetonlaw06_ArbTwins.l0 k y0 y1 y2 y3 y4 y5 y6 y7 y8) (phaetonlaw06_ArbTwins.l0 (k + 1) y0 y1 y2 y3 y4 y5 y6 y7 y8))
  | 0 => ⟨fun _ _ _ _ _ r h => by simp [phaetonlaw06_ArbTwins.j0] at h, fun _ _ _ _ _ _ _ _ _ r h => by simp [phaetonlaw06_ArbTwins.j1] at h, fun _ _ _ _ _ _ _ _ _ r h => by simp [phaetonlaw06_ArbTwins.l0] at h⟩
  | k + 1 => by
    obtain ⟨ih0, ih1, ih2⟩ := phaetonlaw06_ArbTwins.mono_l k
    refine ⟨?_, ?_, ?_⟩
    · intro y0 y1 y2 y3 y4
      unfold phaetonlaw06_ArbTwins.j0
      repeat' first
      | (with_reducible exact ih0 _ _ _ _ _)
      | (with_reducible exact ih1 _ _ _ _ _ _ _ _ _)
      | (with_reducible exact ih2 _ _ _ _ _ _ _ _ _)
      | (with_reducible exact phaetonlaw06_head.mono _)
      | (with_reducible exact phaetonref03_Ints.mono _ _ _)
      | (with_reducible exact phaetonref06_Frames.mono _ _ _)
      | (with_reducible exact phaetonref06_Rank.mono _ _ _ _ _ _)
      | (with_reducible exact LeO.refl _)
      | (with_reducible exact LeO.none _)
      | (with_reducible refine LeO.ite ?_ ?_)
      | (with_reducible refine LeO.bind ?_ (fun _ => ?_))
      | exact ih0 _ _ _ _ _
      | exact ih1 _ _ _ _ _ _ _ _ _
      | exact ih2 _ _ _ _ _ _ _ _ _
      | exact phaetonlaw06_head.mono _
      | exact phaetonref03_Ints.mono _ _ _
      | exact phaetonref06_Frames.mono _ _ _
      | exact phaetonref06_Rank.mono _ _ _ _ _ _
      | exact LeO.none _
      | refine LeO.ite ?_ ?_
      | refine LeO.bind ?_ (fun _ => ?_)
    · intro y0 y1 y2 y3 y4 y5 y6 y7 y8
      unfold phaetonlaw06_ArbTwins.j1
      repeat' first
      | (with_reducible exact ih0 _ _ _ _ _)
      | (with_reducible exact ih1 _ _ _ _ _ _ _ _ _)
      | (with_reducible exact ih2 _ _ _ _ _ _ _ _ _)
      | (with_reducible exact phaetonlaw06_head.mono _)
      | (with_reducible exact phaetonref03_Ints.mono _ _ _)
      | (with_reducible exact phaetonref06_Frames.mono _ _ _)
      | (with_reducible exact phaetonref06_Rank.mono _ _ _ _ _ _)
      | (with_reducible exact LeO.refl _)
      | (with_reducible exact LeO.none _)
      | (with_reducible refine LeO.ite ?_ ?_)
      | (with_reducible refine LeO.bind ?_ (fun _ => ?_))
      | exact ih0 _ _ _ _ _
      | exact ih1 _ _ _ _ _ _ _ _ _
      | exact ih2 _ _ _ _ _ _ _ _ _
      | exact phaetonlaw06_head.mono _
      | exact phaetonref03_Ints.mono _ _ _
      | exact phaetonref06_Frames.mono _ _ _
      | exact phaetonref06_Rank.mono _ _ _ _ _ _
      | exact LeO.none _
      | refine LeO.ite ?_ ?_
      | refine LeO.bind ?_ (fun _ => ?_)
    · intro y0 y1 y2 y3 y4 y5 y6 y7 y8
      unfold phaetonlaw06_ArbTwins.l0
      repeat' first
      | (with_reducible exact ih0 _ _ _ _ _)
      | (with_reducible exact ih1 _ _ _ _ _ _ _ _ _)
      | (with_reducible exact ih2 _ _ _ _ _ _ _ _ _)
      | (with_reducible exact phaetonlaw06_head.mono _)
      | (with_reducible exact phaetonref03_Ints.mono _ _ _)
      | (with_reducible exact phaetonref06_Frames.mono _ _ _)
      | (with_reducible exact phaetonref06_Rank.mono _ _ _ _ _ _)
      | (with_reducible exact LeO.refl _)
      | (with_reducible exact LeO.none _)
      | (with_reducible refine LeO.ite ?_ ?_)
      | (with_reducible refine LeO.bind ?_ (fun _ => ?_))
      | exact ih0 _ _ _ _ _
      | exact ih1 _ _ _ _ _ _ _ _ _
      | exact ih2 _ _ _ _ _ _ _ _ _
      | exact phaetonlaw06_head.mono _
      | exact phaetonref03_Ints.mono _ _ _
      | exact phaetonref06_Frames.mono _ _ _
      | exact phaetonref06_Rank.mono _ _ _ _ _ _
      | exact LeO.none _
      | refine LeO.ite ?_ ?_
      | refine LeO.bind ?_ (fun _ => ?_)
theorem phaetonlaw06_ArbTwins.mono : ∀ a0 a1 k, LeO (phaetonlaw06_ArbTwins.f k a0 a1) (phaetonlaw06_ArbTwins.f (k + 1) a0 a1) := by
  intro a0 a1 k
  obtain ⟨ih0, ih1, ih2⟩ := phaetonlaw06_ArbTwins.mono_l k
  unfold phaetonlaw06_ArbTwins.f
  repeat' first
      | (with_reducible exact ih0 _ _ _ _ _)
      | (with_reducible exact ih1 _ _ _ _ _ _ _ _ _)
      | (with_reducible exact ih2 _ _ _ _ _ _ _ _ _)
      | (with_reducible exact phaetonlaw06_head.mono _)
      | (with_reducible exact phaetonref03_Ints.mono _ _ _)
      | (with_reducible exact phaetonref06_Frames.mono _ _ _)
      | (with_reducible exact phaetonref06_Rank.mono _ _ _ _ _ _)
      | (with_reducible exact LeO.refl _)
      | (with_reducible exact LeO.none _)
      | (with_reducible refine LeO.ite ?_ ?_)
      | (with_reducible refine LeO.bind ?_ (fun _ => ?_))
      | exact ih0 _ _ _ _ _
      | exact ih1 _ _ _ _ _ _ _ _ _
      | exact ih2 _ _ _ _ _ _ _ _ _
      | exact phaetonlaw06_head.mono _
      | exact phaetonref03_Ints.mono _ _ _
      | exact phaetonref06_Frames.mono _ _ _
      | exact phaetonref06_Rank.mono _ _ _ _ _ _
      | exact LeO.none _
      | refine LeO.ite ?_ ?_
      | refine LeO.bind ?_ (fun _ => ?_)
def phaetonlaw06_ArbTwins.T8 : Bool × List (List Nat × List Nat) := (true, [([], []), ([], []), ([0, 1], [0, 1]), ([2], [2]), ([3], [3]), ([], []), ([], []), ([5, 6], [5, 6]), ([7], [7]), ([8], [8]), ([], []), ([], []), ([10, 11], [10, 11]), ([12], [12]), ([13], [13]), ([], []), ([4, 9, 14, 15], [4, 9, 14, 15]), ([16], [16]), ([], []), ([18, 17, 17, 0, 1, 2, 3, 4, 5, 6, 7, 8, 9, 10, 11, 12, 13, 14, 15, 16, 17, 18], [17, 18])])
def phaetonlaw06_ArbTwins.B8 : List Nat := [0, 0, 3, 7, 15, 0, 0, 96, 224, 480, 0, 0, 3072, 7168, 15360, 0, 65535, 131071, 0, 524287]
theorem phaetonlaw06_ArbTwins.tab8 : rtab .any (opsOf Try.f8 8) = phaetonlaw06_ArbTwins.T8 := by kernel_rfl
theorem phaetonlaw06_ArbTwins.bits8 : waitsOk phaetonlaw06_ArbTwins.T8.2 phaetonlaw06_ArbTwins.B8 = true := by kernel_rfl
def phaetonlaw06_ArbTwins.T17 : Bool × List (List Nat × List Nat) := (true, [([], []), ([], []), ([0, 1], [0, 1]), ([2], [2]), ([3], [3]), ([], []), ([], []), ([5, 6], [5, 6]), ([7], [7]), ([8], [8]), ([], []), ([10, 9], [10]), ([9, 11, 11], [9, 11]), ([4, 12], [4, 12])])
def phaetonlaw06_ArbTwins.B17 : List Nat := [0, 0, 3, 7, 15, 0, 0, 96, 224, 480, 0, 2016, 4064, 8191]
theorem phaetonlaw06_ArbTwins.tab17 : rtab .any (opsOf Try.f8 17) = phaetonlaw06_ArbTwins.T17 := by kernel_rfl
theorem phaetonlaw06_ArbTwins.bits17 : waitsOk phaetonlaw06_ArbTwins.T17.2 phaetonlaw06_ArbTwins.B17 = true := by kernel_rfl
set_option maxHeartbeats 8000000 in
set_option maxRecDepth 100000 in
theorem phaetonlaw06_ArbTwins.calls (k : Nat) (A0 : Option Addr) (c0 : Nat) (l0 : List (S35)) (A1 : Option Addr) (c1 : Nat) (l1 : List Int) (r : Bool) (w : World) (hr0 : Kd.C k35 w A0 l0.length l0) (hc0 : l0.length ≤ c0) (hr1 : Kd.C (Kd.int .u8) w A1 l1.length l1) (hc1 : l1.length ≤ c1) (h : phaetonlaw06_ArbTwins.f k l0 l1 = some r) :
    Calls Try.prog 8 #[.slice A0 l0.length c0, .slice A1 l1.length c1] w fun e w' => e = .returned (.bool r) ∧ Below w.heap.size w w' := by
  have hu35 := Try.underlying35
  have HR0 := Aside0.mk hr0
  have HC0 := Aside0.mk hc0
  clear hr0 hc0
  have HR1 := Aside0.mk hr1
  have HC1 := Aside0.mk hc1
  clear hr1 hc1
  have HB := Aside0.mk (Below.refl w.heap.size w)
  have H : ((phaetonlaw06_head.f k).bind fun t461 => ((phaetonref06_Frames.f k l0 9).bind fun t462 => ((arb_Win.f t462).bind fun t465 => (if (t462.length : Int) = 0 then (if t465 = (-1) then (if t461 = true then (some true) else (none)) else (none)) else (if t465 < 0 then (phaetonlaw06_ArbTwins.j0 k t462 l1 t461 t465 true) else (phaetonlaw06_ArbTwins.j0 k t462 l1 t461 t465 (decide (t465 ≥ (t462.length : Int))))))))) = some r := h
  clear h
  replace H := Option.bind_eq_some_iff.mp H
  obtain ⟨t461, A30, H⟩ := H
  replace H : ((phaetonref06_Frames.f k l0 9).bind fun t462 => ((arb_Win.f t462).bind fun t465 => (if (t462.length : Int) = 0 then (if t465 = (-1) then (if t461 = true then (some true) else (none)) else (none)) else (if t465 < 0 then (phaetonlaw06_ArbTwins.j0 k t462 l1 t461 t465 true) else (phaetonlaw06_ArbTwins.j0 k t462 l1 t461 t465 (decide (t465 ≥ (t462.length : Int)))))))) = some r := H
  have A3 := Aside0.mk A30
  clear A30
  replace H := Option.bind_eq_some_iff.mp H
  obtain ⟨t462, A40, H⟩ := H
  replace H : ((arb_Win.f t462).bind fun t465 => (if (t462.length : Int) = 0 then (if t465 = (-1) then (if t461 = true then (some true) else (none)) else (none)) else (if t465 < 0 then (phaetonlaw06_ArbTwins.j0 k t462 l1 t461 t465 true) else (phaetonlaw06_ArbTwins.j0 k t462 l1 t461 t465 (decide (t465 ≥ (t462.length : Int))))))) = some r := H
  have A4 := Aside0.mk A40
  clear A40
  replace H := Option.bind_eq_some_iff.mp H
  obtain ⟨t465, A50, H⟩ := H
  replace H : (if (t462.length : Int) = 0 then (if t465 = (-1) then (if t461 = true then (some true) else (none)) else (none)) else (if t465 < 0 then (phaetonlaw06_ArbTwins.j0 k t462 l1 t461 t465 true) else (phaetonlaw06_ArbTwins.j0 k t462 l1 t461 t465 (decide (t465 ≥ (t462.length : Int)))))) = some r := H
  have A5 := Aside0.mk A50
  clear A50
  by_cases c6 : (t462.length : Int) = 0
  · rw [if_pos c6] at H
    have c6b0 : ((t462.length : Int) == 0) = true := beq_iff_eq.mpr c6
    have c6b1 : ((t462.length : Int) != 0) = false := bne_eq_false_iff_eq.mpr c6
    clear c6
    by_cases c7 : t465 = (-1)
    · rw [if_pos c7] at H
      have c7b0 : (t465 == (-1)) = true := beq_iff_eq.mpr c7
      have c7b1 : (t465 != (-1)) = false := bne_eq_false_iff_eq.mpr c7
      clear c7
      by_cases c8 : t461 = true
      · subst c8
        have H1 : (some true) = some r := by rw [if_pos rfl] at H; exact H
        clear H
        have H := H1
        clear H1
        obtain rfl := Option.some.inj H
        go_enter Try.func8, Try.ntmps8
        (try simp only [List.append])
        go_wp2_with (first | ((with_reducible refine gate_callee (f := 11) rfl ?_); refine goesL_ (some 11) rfl rfl Try.func11 (by kernel_rfl) rfl #[] rfl (by (try simp only [List.map_toArray, List.map_cons, List.map_nil]); first | done | rfl | (simp only [List.length_drop, List.length_take]; rfl)) ?_; (with_reducible refine (phaetonlaw06_head.calls k  true _ A3.out).mono ?_); rintro e w9 ⟨rfl, hb⟩; refine ⟨_, rfl, ?_⟩; have n0_ := Aside0.mk (below_step (by repeat (first | (with_reducible first | exact HB.out | apply below_alloc | apply pw_below_drewN | apply below_drew1) | exact HB.out)) hb); clear HB; have HB := n0_; clear n0_; (try clear hb); (try clear hb2); (try clear hk); (try clear hi)) | ((with_reducible refine gate_callee (f := 12) rfl ?_); refine goesL_ (some 13) rfl rfl Try.func12 (by kernel_rfl) rfl #[.slice A0 l0.length c0, .int .i64 9] rfl (by (try simp only [List.map_toArray, List.map_cons, List.map_nil]); first | done | rfl | (simp only [List.length_drop, List.length_take]; rfl)) ?_; (with_reducible refine (phaetonref06_Frames.calls k _ _ l0 9 t462 _ ?side1 ?side2 A4.out).mono ?_); (case side1 => repeat (first | exact (Kd.C_below HR0.out HB.out) | (with_reducible refine Kd.C_alloc ?_ _) | (with_reducible refine Kd.C_drewN ?_ _) | (with_reducible refine Kd.C_drew ?_))); (case side2 => exact HC0.out); rintro e w10 ⟨v463, rfl, ho0, hb⟩; refine ⟨_, rfl, ?_⟩; have n0_ := Aside0.mk (Kd.N_lower (Kd.N_mono (ok' := fun k_ => True) (Kd.S_N (Kd.S_bound ho0)) (fun k_ hk_ => trivial)) (below_size (by repeat (first | (with_reducible first | exact HB.out | apply below_alloc | apply pw_below_drewN | apply below_drew1) | exact HB.out)))); have n1_ := Aside0.mk (below_step (by repeat (first | (with_reducible first | exact HB.out | apply below_alloc | apply pw_below_drewN | apply below_drew1) | exact HB.out)) hb); clear HB; have HO464 := n0_; have HB := n1_; clear n0_ n1_; (try clear hb); (try clear hb2); (try clear hk); (try clear hi); (try clear ho0); obtain ⟨Ao11, co11, eo11⟩ := Kd.N_slice HO464.out; subst eo11) | ((with_reducible refine gate_callee (f := 14) rfl ?_); refine goesL_ (some 15) rfl rfl Try.func14 (by kernel_rfl) rfl #[.slice Ao11 t462.length co11] rfl (by (try simp only [List.map_toArray, List.map_cons, List.map_nil]); first | done | rfl | (simp only [List.length_drop, List.length_take]; rfl)) ?_; (with_reducible refine (arb_Win.calls _ _ t462 t465 _ ?side1 ?side2 A5.out).mono ?_); (case side1 => repeat (first | exact (Kd.N_reads' HO464.out).2.2 | (with_reducible refine Kd.C_alloc ?_ _) | (with_reducible refine Kd.C_drewN ?_ _) | (with_reducible refine Kd.C_drew ?_))); (case side2 => exact (Kd.N_reads' HO464.out).2.1); rintro e w12 ⟨rfl, hb⟩; refine ⟨_, rfl, ?_⟩; have n0_ := Aside0.mk (Kd.N_below (by (with_reducible repeat (first | apply Kd.N_alloc | apply Kd.N_drewN | apply Kd.N_drew)); exact HO464.out) hb); have n1_ := Aside0.mk (below_step (by repeat (first | (with_reducible first | exact HB.out | apply below_alloc | apply pw_below_drewN | apply below_drew1) | exact HB.out)) hb); clear HO464; clear HB; have HO464 := n0_; have HB := n1_; clear n0_ n1_; (try clear hb); (try clear hb2); (try clear hk); (try clear hi)))
        go_ret
        exact ⟨by first | rfl | (simp [errW_none, errW_some] <;> rfl) | (simp [*, errW_none, errW_some] <;> rfl), by repeat (first | (with_reducible first | exact HB.out | apply below_alloc | apply pw_below_drewN | apply below_drew1) | exact HB.out)⟩
      · replace c8 := Bool.eq_false_iff.mpr c8
        subst c8
        have H1 : (none) = some r := by rw [if_neg (show ¬ (false = true) by decide)] at H; exact H
        clear H
        have H := H1
        clear H1
        exact absurd H (by simp)
    · rw [if_neg c7] at H
      exact absurd H (by simp)
  · rw [if_neg c6] at H
    have c6b0 : ((t462.length : Int) == 0) = false := beq_eq_false_iff_ne.mpr c6
    have c6b1 : ((t462.length : Int) != 0) = true := bne_iff_ne.mpr c6
    have c6b2 : ¬ (t462 = []) := fun h_ => c6 (by rw [h_]; rfl)
    have HC13 := Aside0.mk H
    clear H
    go_enter Try.func8, Try.ntmps8
    (try simp only [List.append])
    go_upto_region 6 with (first | ((with_reducible refine gate_callee (f := 11) rfl ?_); refine goesL_ (some 11) rfl rfl Try.func11 (by kernel_rfl) rfl #[] rfl (by (try simp only [List.map_toArray, List.map_cons, List.map_nil]); first | done | rfl | (simp only [List.length_drop, List.length_take]; rfl)) ?_; (with_reducible refine (phaetonlaw06_head.calls k  t461 _ A3.out).mono ?_); rintro e w14 ⟨rfl, hb⟩; refine ⟨_, rfl, ?_⟩; have n0_ := Aside0.mk (below_step (by repeat (first | (with_reducible first | exact HB.out | apply below_alloc | apply pw_below_drewN | apply below_drew1) | exact HB.out)) hb); clear HB; have HB := n0_; clear n0_; (try clear hb); (try clear hb2); (try clear hk); (try clear hi)) | ((with_reducible refine gate_callee (f := 12) rfl ?_); refine goesL_ (some 13) rfl rfl Try.func12 (by kernel_rfl) rfl #[.slice A0 l0.length c0, .int .i64 9] rfl (by (try simp only [List.map_toArray, List.map_cons, List.map_nil]); first | done | rfl | (simp only [List.length_drop, List.length_take]; rfl)) ?_; (with_reducible refine (phaetonref06_Frames.calls k _ _ l0 9 t462 _ ?side1 ?side2 A4.out).mono ?_); (case side1 => repeat (first | exact (Kd.C_below HR0.out HB.out) | (with_reducible refine Kd.C_alloc ?_ _) | (with_reducible refine Kd.C_drewN ?_ _) | (with_reducible refine Kd.C_drew ?_))); (case side2 => exact HC0.out); rintro e w15 ⟨v463, rfl, ho0, hb⟩; refine ⟨_, rfl, ?_⟩; have n0_ := Aside0.mk (Kd.N_lower (Kd.N_mono (ok' := fun k_ => True) (Kd.S_N (Kd.S_bound ho0)) (fun k_ hk_ => trivial)) (below_size (by repeat (first | (with_reducible first | exact HB.out | apply below_alloc | apply pw_below_drewN | apply below_drew1) | exact HB.out)))); have n1_ := Aside0.mk (below_step (by repeat (first | (with_reducible first | exact HB.out | apply below_alloc | apply pw_below_drewN | apply below_drew1) | exact HB.out)) hb); clear HB; have HO464 := n0_; have HB := n1_; clear n0_ n1_; (try clear hb); (try clear hb2); (try clear hk); (try clear hi); (try clear ho0); obtain ⟨Ao16, co16, eo16⟩ := Kd.N_slice HO464.out; subst eo16) | ((with_reducible refine gate_callee (f := 14) rfl ?_); refine goesL_ (some 15) rfl rfl Try.func14 (by kernel_rfl) rfl #[.slice Ao16 t462.length co16] rfl (by (try simp only [List.map_toArray, List.map_cons, List.map_nil]); first | done | rfl | (simp only [List.length_drop, List.length_take]; rfl)) ?_; (with_reducible refine (arb_Win.calls _ _ t462 t465 _ ?side1 ?side2 A5.out).mono ?_); (case side1 => repeat (first | exact (Kd.N_reads' HO464.out).2.2 | (with_reducible refine Kd.C_alloc ?_ _) | (with_reducible refine Kd.C_drewN ?_ _) | (with_reducible refine Kd.C_drew ?_))); (case side2 => exact (Kd.N_reads' HO464.out).2.1); rintro e w17 ⟨rfl, hb⟩; refine ⟨_, rfl, ?_⟩; have n0_ := Aside0.mk (Kd.N_below (by (with_reducible repeat (first | apply Kd.N_alloc | apply Kd.N_drewN | apply Kd.N_drew)); exact HO464.out) hb); have n1_ := Aside0.mk (below_step (by repeat (first | (with_reducible first | exact HB.out | apply below_alloc | apply pw_below_drewN | apply below_drew1) | exact HB.out)) hb); clear HO464; clear HB; have HO464 := n0_; have HB := n1_; clear n0_ n1_; (try clear hb); (try clear hb2); (try clear hk); (try clear hi)))
    (try simp only [Act.put, List.setIfInBounds_toArray, List.set_cons_zero, List.set_cons_succ])
    go_cut [31] (fun v31 wc => ∃ (kq : Nat) (x31_12 : Bool), v31 = .bool x31_12 ∧ Aside0 (phaetonlaw06_ArbTwins.j0 kq t462 l1 t461 t465 x31_12 = some r) ∧ Aside0 (kq ≤ k) ∧ Aside0 (Kd.N k35 35 wc w.heap.size (fun _ => True) (.slice Ao16 t462.length co16) t462) ∧ Aside0 (Below w.heap.size w wc))
    case first =>
      have H := HC13.out
      clear HC13
      by_cases c18 : t465 < 0
      · rw [if_pos c18] at H
        have c18b0 : decide (t465 < 0) = true := decide_eq_true c18
        clear c18
        (first | rw [c18b0] | (simp only [i64_w, i32_w]; rw [c18b0]) | skip)
        have H' := Aside0.mk H
        clear H
        go_wp2
        go_meet
        case rel => exact ⟨_, (true), (by first | rfl | (simp; done) | (simp [*]; done)), H', ⟨by first | omega | exact Nat.le_refl _⟩, ⟨by (with_reducible repeat (first | apply Kd.N_alloc | apply Kd.N_drewN | apply Kd.N_drew)); exact HO464.out⟩, ⟨by repeat (first | (with_reducible first | exact HB.out | apply below_alloc | apply pw_below_drewN | apply below_drew1) | exact HB.out)⟩⟩
      · rw [if_neg c18] at H
        have c18b0 : decide (t465 < 0) = false := decide_eq_false c18
        clear c18
        (first | rw [c18b0] | (simp only [i64_w, i32_w]; rw [c18b0]) | skip)
        have H' := Aside0.mk H
        clear H
        go_wp2
        go_meet
        case rel => exact ⟨_, (decide (t465 ≥ (t462.length : Int))), (by first | rfl | (simp; done) | (simp [*]; done)), H', ⟨by first | omega | exact Nat.le_refl _⟩, ⟨by (with_reducible repeat (first | apply Kd.N_alloc | apply Kd.N_drewN | apply Kd.N_drew)); exact HO464.out⟩, ⟨by repeat (first | (with_reducible first | exact HB.out | apply below_alloc | apply pw_below_drewN | apply below_drew1) | exact HB.out)⟩⟩
    case rest =>
      clear HC13
      try clear c1
      try clear p2
      try clear c6
      try clear c6b0
      try clear c6b1
      try clear c6b2
      try clear c7
      try clear c7b0
      try clear c7b1
      try clear c8
      try clear c11
      try clear c12
      try clear c14
      try clear c18
      try clear c18b0
      obtain ⟨kq, x31_12, rfl, HA, HJ12, HO_0, HB⟩ := hcut
      cases kq with
      | zero => exact absurd HA.out (by simp [phaetonlaw06_ArbTwins.j0])
      | succ kj12 =>
        have H := HA.out
        clear HA
        simp only [phaetonlaw06_ArbTwins.j0] at H
        by_cases c19 : x31_12 = true
        · subst c19
          have H1 : (none) = some r := by rw [if_pos rfl] at H; exact H
          clear H
          have H := H1
          clear H1
          exact absurd H (by simp)
        · replace c19 := Bool.eq_false_iff.mpr c19
          subst c19
          have H1 : (if 0 ≤ t465 then (if t465 < (t462.length : Int) then ((phaetonref06_Made.f ((rd_T35 t462 t465).f0) ((rd_T35 t462 t465).f1) ((rd_T35 t462 t465).f2) 0 l1).bind fun bt469 => ((some (([] : List (S35)) : List (S35))).bind fun y477 => (if y477.length + t462.length < 2513169434916 then ((some (y477 ++ t462 : List (S35))).bind fun y480 => (if y480.length < 2513169434916 then ((some (y480 ++ [(⟨bt469.1, bt469.2.1, bt469.2.2.1, bt469.2.2.2.1, bt469.2.2.2.2⟩ : S35)] : List (S35))).bind fun y483 => ((arb_Lost.f y483).bind fun t486 => (if (t486.length : Int) = (y483.length : Int) then ((arb_Win.f y483).bind fun t489 => (if t489 = t465 then (if 0 ≤ (t462.length : Int) then (if (t462.length : Int) < (t486.length : Int) then (phaetonlaw06_ArbTwins.j1 kj12 t461 y483 t486 ((rd t486 (t462.length : Int)) != (-1)) bt469.1 bt469.2.1 bt469.2.2.1 bt469.2.2.2.1 bt469.2.2.2.2) else (none)) else (none)) else (phaetonlaw06_ArbTwins.j1 kj12 t461 y483 t486 true bt469.1 bt469.2.1 bt469.2.2.1 bt469.2.2.2.1 bt469.2.2.2.2))) else (phaetonlaw06_ArbTwins.j1 kj12 t461 y483 t486 true bt469.1 bt469.2.1 bt469.2.2.1 bt469.2.2.2.1 bt469.2.2.2.2)))) else (none))) else (none)))) else (none)) else (none)) = some r := by rw [if_neg (show ¬ (false = true) by decide)] at H; exact H
          clear H
          have H := H1
          clear H1
          by_cases c20 : 0 ≤ t465
          · rw [if_pos c20] at H
            have c20b0 : decide (0 ≤ t465) = true := decide_eq_true c20
            clear c20
            by_cases c21 : t465 < (t462.length : Int)
            · rw [if_pos c21] at H
              have c21b0 : decide (t465 < (t462.length : Int)) = true := decide_eq_true c21
              clear c21
              replace H := Option.bind_eq_some_iff.mp H
              obtain ⟨⟨t469, t470, t471, t472, t473⟩, A220, H⟩ := H
              replace H : ((some (([] : List (S35)) : List (S35))).bind fun y477 => (if y477.length + t462.length < 2513169434916 then ((some (y477 ++ t462 : List (S35))).bind fun y480 => (if y480.length < 2513169434916 then ((some (y480 ++ [(⟨t469, t470, t471, t472, t473⟩ : S35)] : List (S35))).bind fun y483 => ((arb_Lost.f y483).bind fun t486 => (if (t486.length : Int) = (y483.length : Int) then ((arb_Win.f y483).bind fun t489 => (if t489 = t465 then (if 0 ≤ (t462.length : Int) then (if (t462.length : Int) < (t486.length : Int) then (phaetonlaw06_ArbTwins.j1 kj12 t461 y483 t486 ((rd t486 (t462.length : Int)) != (-1)) t469 t470 t471 t472 t473) else (none)) else (none)) else (phaetonlaw06_ArbTwins.j1 kj12 t461 y483 t486 true t469 t470 t471 t472 t473))) else (phaetonlaw06_ArbTwins.j1 kj12 t461 y483 t486 true t469 t470 t471 t472 t473)))) else (none))) else (none))) = some r := H
              have A22 := Aside0.mk A220
              clear A220
              obtain ⟨y477, hy477⟩ : ∃ y_ : List (S35), y_ = (([] : List (S35))) := ⟨_, rfl⟩
              replace H : (if y477.length + t462.length < 2513169434916 then ((some (y477 ++ t462 : List (S35))).bind fun y480 => (if y480.length < 2513169434916 then ((some (y480 ++ [(⟨t469, t470, t471, t472, t473⟩ : S35)] : List (S35))).bind fun y483 => ((arb_Lost.f y483).bind fun t486 => (if (t486.length : Int) = (y483.length : Int) then ((arb_Win.f y483).bind fun t489 => (if t489 = t465 then (if 0 ≤ (t462.length : Int) then (if (t462.length : Int) < (t486.length : Int) then (phaetonlaw06_ArbTwins.j1 kj12 t461 y483 t486 ((rd t486 (t462.length : Int)) != (-1)) t469 t470 t471 t472 t473) else (none)) else (none)) else (phaetonlaw06_ArbTwins.j1 kj12 t461 y483 t486 true t469 t470 t471 t472 t473))) else (phaetonlaw06_ArbTwins.j1 kj12 t461 y483 t486 true t469 t470 t471 t472 t473)))) else (none))) else (none)) = some r := by first | (rw [hy477]; with_reducible exact H) | (have H2_ := (Option.bind_some _ _).symm.trans H; rw [hy477]; with_reducible exact H2_) | (have H2_ := (Option.bind_some _ _).symm.trans H; with_reducible exact H2_) | with_reducible exact H | (rw [hy477]; exact H) | exact H
              have Ny477 := Aside0.mk hy477
              clear hy477
              by_cases c23 : y477.length + t462.length < 2513169434916
              · rw [if_pos c23] at H
                have LMc23 := Aside0.mk c23
                clear c23
                obtain ⟨y480, hy480⟩ : ∃ y_ : List (S35), y_ = (y477 ++ t462) := ⟨_, rfl⟩
                replace H : (if y480.length < 2513169434916 then ((some (y480 ++ [(⟨t469, t470, t471, t472, t473⟩ : S35)] : List (S35))).bind fun y483 => ((arb_Lost.f y483).bind fun t486 => (if (t486.length : Int) = (y483.length : Int) then ((arb_Win.f y483).bind fun t489 => (if t489 = t465 then (if 0 ≤ (t462.length : Int) then (if (t462.length : Int) < (t486.length : Int) then (phaetonlaw06_ArbTwins.j1 kj12 t461 y483 t486 ((rd t486 (t462.length : Int)) != (-1)) t469 t470 t471 t472 t473) else (none)) else (none)) else (phaetonlaw06_ArbTwins.j1 kj12 t461 y483 t486 true t469 t470 t471 t472 t473))) else (phaetonlaw06_ArbTwins.j1 kj12 t461 y483 t486 true t469 t470 t471 t472 t473)))) else (none)) = some r := by first | (rw [hy480]; with_reducible exact H) | (have H2_ := (Option.bind_some _ _).symm.trans H; rw [hy480]; with_reducible exact H2_) | (have H2_ := (Option.bind_some _ _).symm.trans H; with_reducible exact H2_) | with_reducible exact H | (rw [hy480]; exact H) | exact H
                have Ny480 := Aside0.mk hy480
                clear hy480
                by_cases c24 : y480.length < 2513169434916
                · rw [if_pos c24] at H
                  have LMc24 := Aside0.mk c24
                  clear c24
                  obtain ⟨y483, hy483⟩ : ∃ y_ : List (S35), y_ = (y480 ++ [(⟨t469, t470, t471, t472, t473⟩ : S35)]) := ⟨_, rfl⟩
                  replace H : ((arb_Lost.f y483).bind fun t486 => (if (t486.length : Int) = (y483.length : Int) then ((arb_Win.f y483).bind fun t489 => (if t489 = t465 then (if 0 ≤ (t462.length : Int) then (if (t462.length : Int) < (t486.length : Int) then (phaetonlaw06_ArbTwins.j1 kj12 t461 y483 t486 ((rd t486 (t462.length : Int)) != (-1)) t469 t470 t471 t472 t473) else (none)) else (none)) else (phaetonlaw06_ArbTwins.j1 kj12 t461 y483 t486 true t469 t470 t471 t472 t473))) else (phaetonlaw06_ArbTwins.j1 kj12 t461 y483 t486 true t469 t470 t471 t472 t473))) = some r := by first | (rw [hy483]; with_reducible exact H) | (have H2_ := (Option.bind_some _ _).symm.trans H; rw [hy483]; with_reducible exact H2_) | (have H2_ := (Option.bind_some _ _).symm.trans H; with_reducible exact H2_) | with_reducible exact H | (rw [hy483]; exact H) | exact H
                  have Ny483 := Aside0.mk hy483
                  clear hy483
                  replace H := Option.bind_eq_some_iff.mp H
                  obtain ⟨t486, A250, H⟩ := H
                  replace H : (if (t486.length : Int) = (y483.length : Int) then ((arb_Win.f y483).bind fun t489 => (if t489 = t465 then (if 0 ≤ (t462.length : Int) then (if (t462.length : Int) < (t486.length : Int) then (phaetonlaw06_ArbTwins.j1 kj12 t461 y483 t486 ((rd t486 (t462.length : Int)) != (-1)) t469 t470 t471 t472 t473) else (none)) else (none)) else (phaetonlaw06_ArbTwins.j1 kj12 t461 y483 t486 true t469 t470 t471 t472 t473))) else (phaetonlaw06_ArbTwins.j1 kj12 t461 y483 t486 true t469 t470 t471 t472 t473)) = some r := H
                  have A25 := Aside0.mk A250
                  clear A250
                  have HC26 := Aside0.mk H
                  clear H
                  try go_wp2
                  have n0_ := Aside0.mk (Kd.N_drew HO_0.out)
                  have n1_ := Aside0.mk (below_drew1 HB.out)
                  clear HO_0
                  clear HB
                  have HO_0 := n0_
                  have HB := n1_
                  clear n0_ n1_
                  have p466 : 0 ≤ (t465 : Int) := of_decide_eq_true (by first | (with_reducible assumption) | assumption)
                  have q466 : t465 < (t462.length : Int) := of_decide_eq_true (by first | (with_reducible assumption) | assumption)
                  obtain ⟨ad466, A466_4, c466_4, e466, hx466_0, hx466_1, hx466_2, hx466_3, hx466_4, hl466_4, hi466_4⟩ := at_T35 (Kd.N_reads' HO_0.out).2.2 t465 p466 q466
                  cases e466
                  obtain ⟨ce466, hce466, hMe466, hcc466⟩ := Kd.N_get HO_0.out z35 t465 p466 (by first | exact q466 | exact of_decide_eq_true (by first | (with_reducible assumption) | assumption) | (have e_ := (Kd.N_reads' HO_0.out).1; omega))
                  obtain ⟨ua466_4, uc466_4, rfl, ul466_4, ge466_4⟩ := k35_openF hMe466
                  have hv466_4 := hcc466 4 _ rfl
                  rw [add_field _ _ 4 (by omega)] at hv466_4
                  replace hv466_4 := Option.some.inj (hv466_4.symm.trans hx466_4)
                  injection hv466_4 with hva_ hvn_ hvc_
                  rw [hva_] at ge466_4
                  rw [hvc_] at ul466_4
                  have HL466_4 := Aside0.mk (show Kd.V (Kd.int .u8) 5 _ w.heap.size _ _ ((rd_T35 t462 t465).f4) from Kd.V_mk ul466_4 ge466_4)
                  clear hva_ hvn_ hvc_ ge466_4 ul466_4
                  clear hcc466 hce466
                  have HR466_4 := Aside0.mk hi466_4
                  have HC466_4 := Aside0.mk hl466_4
                  clear hi466_4 hl466_4
                  replace p466 := eq_true p466
                  replace q466 := eq_true q466
                  have p467 : 0 ≤ (t465 : Int) := of_decide_eq_true (by first | (with_reducible assumption) | assumption)
                  have q467 : t465 < (t462.length : Int) := of_decide_eq_true (by first | (with_reducible assumption) | assumption)
                  obtain ⟨ad467, A467_4, c467_4, e467, hx467_0, hx467_1, hx467_2, hx467_3, hx467_4, hl467_4, hi467_4⟩ := at_T35 (Kd.N_reads' HO_0.out).2.2 t465 p467 q467
                  obtain rfl : ad466 = ad467 := (by injection e467)
                  obtain ⟨ce467, hce467, hMe467, hcc467⟩ := Kd.N_get HO_0.out z35 t465 p467 (by first | exact q467 | exact of_decide_eq_true (by first | (with_reducible assumption) | assumption) | (have e_ := (Kd.N_reads' HO_0.out).1; omega))
                  obtain ⟨ua467_4, uc467_4, rfl, ul467_4, ge467_4⟩ := k35_openF hMe467
                  have hv467_4 := hcc467 4 _ rfl
                  rw [add_field _ _ 4 (by omega)] at hv467_4
                  replace hv467_4 := Option.some.inj (hv467_4.symm.trans hx467_4)
                  injection hv467_4 with hva_ hvn_ hvc_
                  rw [hva_] at ge467_4
                  rw [hvc_] at ul467_4
                  have HL467_4 := Aside0.mk (show Kd.V (Kd.int .u8) 5 _ w.heap.size _ _ ((rd_T35 t462 t465).f4) from Kd.V_mk ul467_4 ge467_4)
                  clear hva_ hvn_ hvc_ ge467_4 ul467_4
                  clear hcc467 hce467
                  have HR467_4 := Aside0.mk hi467_4
                  have HC467_4 := Aside0.mk hl467_4
                  clear hi467_4 hl467_4
                  replace p467 := eq_true p467
                  replace q467 := eq_true q467
                  have ea_ := Option.some.inj (hx466_4.symm.trans hx467_4)
                  injection ea_ with ea_ en_ ec_
                  subst ea_
                  subst ec_
                  clear en_
                  have p468 : 0 ≤ (t465 : Int) := of_decide_eq_true (by first | (with_reducible assumption) | assumption)
                  have q468 : t465 < (t462.length : Int) := of_decide_eq_true (by first | (with_reducible assumption) | assumption)
                  obtain ⟨ad468, A468_4, c468_4, e468, hx468_0, hx468_1, hx468_2, hx468_3, hx468_4, hl468_4, hi468_4⟩ := at_T35 (Kd.N_reads' HO_0.out).2.2 t465 p468 q468
                  obtain rfl : ad466 = ad468 := (by injection e468)
                  obtain ⟨ce468, hce468, hMe468, hcc468⟩ := Kd.N_get HO_0.out z35 t465 p468 (by first | exact q468 | exact of_decide_eq_true (by first | (with_reducible assumption) | assumption) | (have e_ := (Kd.N_reads' HO_0.out).1; omega))
                  obtain ⟨ua468_4, uc468_4, rfl, ul468_4, ge468_4⟩ := k35_openF hMe468
                  have hv468_4 := hcc468 4 _ rfl
                  rw [add_field _ _ 4 (by omega)] at hv468_4
                  replace hv468_4 := Option.some.inj (hv468_4.symm.trans hx468_4)
                  injection hv468_4 with hva_ hvn_ hvc_
                  rw [hva_] at ge468_4
                  rw [hvc_] at ul468_4
                  have HL468_4 := Aside0.mk (show Kd.V (Kd.int .u8) 5 _ w.heap.size _ _ ((rd_T35 t462 t465).f4) from Kd.V_mk ul468_4 ge468_4)
                  clear hva_ hvn_ hvc_ ge468_4 ul468_4
                  clear hcc468 hce468
                  have HR468_4 := Aside0.mk hi468_4
                  have HC468_4 := Aside0.mk hl468_4
                  clear hi468_4 hl468_4
                  replace p468 := eq_true p468
                  replace q468 := eq_true q468
                  have ea_ := Option.some.inj (hx466_4.symm.trans hx468_4)
                  injection ea_ with ea_ en_ ec_
                  subst ea_
                  subst ec_
                  clear en_
                  refine start_ (n := 20) (S := fun w' => w'.cell? (ad466.add ((t465).toNat * 5)) = some (.bool ((rd_T35 t462 t465).f0)) ∧ w'.cell? ⟨(ad466.add ((t465).toNat * 5)).block, (ad466.add ((t465).toNat * 5)).off + 1, none⟩ = some (.int .i64 ((rd_T35 t462 t465).f1)) ∧ w'.cell? ⟨(ad466.add ((t465).toNat * 5)).block, (ad466.add ((t465).toNat * 5)).off + 2, none⟩ = some (.bool ((rd_T35 t462 t465).f2)) ∧ w'.cell? ⟨(ad466.add ((t465).toNat * 5)).block, (ad466.add ((t465).toNat * 5)).off + 3, none⟩ = some (.int .i64 ((rd_T35 t462 t465).f3)) ∧ w'.cell? ⟨(ad466.add ((t465).toNat * 5)).block, (ad466.add ((t465).toNat * 5)).off + 4, none⟩ = some (.slice A466_4 ((rd_T35 t462 t465).f4).length c466_4) ∧ w'.cell? (ad466.add ((t465).toNat * 5)) = some (.bool ((rd_T35 t462 t465).f0)) ∧ w'.cell? ⟨(ad466.add ((t465).toNat * 5)).block, (ad466.add ((t465).toNat * 5)).off + 1, none⟩ = some (.int .i64 ((rd_T35 t462 t465).f1)) ∧ w'.cell? ⟨(ad466.add ((t465).toNat * 5)).block, (ad466.add ((t465).toNat * 5)).off + 2, none⟩ = some (.bool ((rd_T35 t462 t465).f2)) ∧ w'.cell? ⟨(ad466.add ((t465).toNat * 5)).block, (ad466.add ((t465).toNat * 5)).off + 3, none⟩ = some (.int .i64 ((rd_T35 t462 t465).f3)) ∧ w'.cell? ⟨(ad466.add ((t465).toNat * 5)).block, (ad466.add ((t465).toNat * 5)).off + 4, none⟩ = some (.slice A466_4 ((rd_T35 t462 t465).f4).length c466_4) ∧ w'.cell? (ad466.add ((t465).toNat * 5)) = some (.bool ((rd_T35 t462 t465).f0)) ∧ w'.cell? ⟨(ad466.add ((t465).toNat * 5)).block, (ad466.add ((t465).toNat * 5)).off + 1, none⟩ = some (.int .i64 ((rd_T35 t462 t465).f1)) ∧ w'.cell? ⟨(ad466.add ((t465).toNat * 5)).block, (ad466.add ((t465).toNat * 5)).off + 2, none⟩ = some (.bool ((rd_T35 t462 t465).f2)) ∧ w'.cell? ⟨(ad466.add ((t465).toNat * 5)).block, (ad466.add ((t465).toNat * 5)).off + 3, none⟩ = some (.int .i64 ((rd_T35 t462 t465).f3)) ∧ w'.cell? ⟨(ad466.add ((t465).toNat * 5)).block, (ad466.add ((t465).toNat * 5)).off + 4, none⟩ = some (.slice A466_4 ((rd_T35 t462 t465).f4).length c466_4)) (ds := []) #[false, false, false, false, false, false, false, false, false, false, false, false, false, false, false, false, false, false, false, false] (by kernel_rfl) rfl rfl ⟨hx466_0, hx466_1, hx466_2, hx466_3, hx466_4, hx467_0, hx467_1, hx467_2, hx467_3, hx467_4, hx468_0, hx468_1, hx468_2, hx468_3, hx468_4⟩ (fun hHeld => ?_); refine with_tabW phaetonlaw06_ArbTwins.tab8 phaetonlaw06_ArbTwins.bits8 (fun HT_ HW_ => ?_)
                  generalize wc.drew = w27 at HO_0 HB HL466_4 HL467_4 HL468_4 HR466_4 HR467_4 HR468_4 hx466_0 hx466_1 hx466_2 hx466_3 hx466_4 hx467_0 hx467_1 hx467_2 hx467_3 hx467_4 hx468_0 hx468_1 hx468_2 hx468_3 hx468_4 hHeld ⊢
                  refine pure_ (i := 0) (N := some 32) (v := ?_) (a' := ?_) #[true, false, false, false, false, false, false, false, false, false, false, false, false, false, false, false, false, false, false, false] rfl rfl (any_of HT_.out (by kernel_rfl)) (fun _ _ _ h => h) (Or.inl ⟨by rfl, ?_⟩) ?_ ?_
                  rotate_left
                  · intro w'
                    go_simp
                    with_reducible rfl
                  rotate_left
                  · simp only [Act.put, List.setIfInBounds_toArray, List.set_cons_zero, List.set_cons_succ, i64_w, i32_w]
                    rfl
                  refine pure_ (i := 1) (N := some 33) (v := ?_) (a' := ?_) #[true, true, false, false, false, false, false, false, false, false, false, false, false, false, false, false, false, false, false, false] rfl rfl (any_of HT_.out (by kernel_rfl)) (fun _ _ _ h => h) (Or.inl ⟨by rfl, ?_⟩) ?_ ?_
                  rotate_left
                  · intro w'
                    go_simp
                    with_reducible rfl
                  rotate_left
                  · simp only [Act.put, List.setIfInBounds_toArray, List.set_cons_zero, List.set_cons_succ, i64_w, i32_w]
                    rfl
                  refine pure_ (i := 2) (N := some 34) (v := ?_) (a' := ?_) #[true, true, true, false, false, false, false, false, false, false, false, false, false, false, false, false, false, false, false, false] rfl rfl (any_of HT_.out (by kernel_rfl)) (fun _ _ _ h => h) (Or.inl ⟨by rfl, ?_⟩) ?_ ?_
                  rotate_left
                  · intro w'
                    go_simp
                    with_reducible rfl
                  rotate_left
                  · simp only [Act.put, List.setIfInBounds_toArray, List.set_cons_zero, List.set_cons_succ, i64_w, i32_w]
                    rfl
                  refine pure_ (i := 3) (N := some 35) (v := ?_) (a' := ?_) #[true, true, true, true, false, false, false, false, false, false, false, false, false, false, false, false, false, false, false, false] rfl rfl (any_of HT_.out (by kernel_rfl)) (fun _ _ _ h => h) (Or.inl ⟨by rfl, ?_⟩) ?_ ?_
                  rotate_left
                  · intro w'
                    go_simp
                    with_reducible rfl
                  rotate_left
                  · simp only [Act.put, List.setIfInBounds_toArray, List.set_cons_zero, List.set_cons_succ, i64_w, i32_w]
                    rfl
                  refine pure_ (i := 5) (N := some 37) (v := ?_) (a' := ?_) #[true, true, true, true, false, true, false, false, false, false, false, false, false, false, false, false, false, false, false, false] rfl rfl (any_of HT_.out (by kernel_rfl)) (fun _ _ _ h => h) (Or.inl ⟨by rfl, ?_⟩) ?_ ?_
                  rotate_left
                  · intro w'
                    go_simp
                    with_reducible rfl
                  rotate_left
                  · simp only [Act.put, List.setIfInBounds_toArray, List.set_cons_zero, List.set_cons_succ, i64_w, i32_w]
                    rfl
                  refine pure_ (i := 6) (N := some 38) (v := ?_) (a' := ?_) #[true, true, true, true, false, true, true, false, false, false, false, false, false, false, false, false, false, false, false, false] rfl rfl (any_of HT_.out (by kernel_rfl)) (fun _ _ _ h => h) (Or.inl ⟨by rfl, ?_⟩) ?_ ?_
                  rotate_left
                  · intro w'
                    go_simp
                    with_reducible rfl
                  rotate_left
                  · simp only [Act.put, List.setIfInBounds_toArray, List.set_cons_zero, List.set_cons_succ, i64_w, i32_w]
                    rfl
                  refine pure_ (i := 7) (N := some 39) (v := ?_) (a' := ?_) #[true, true, true, true, false, true, true, true, false, false, false, false, false, false, false, false, false, false, false, false] rfl rfl (any_of HT_.out (by kernel_rfl)) (fun _ _ _ h => h) (Or.inl ⟨by rfl, ?_⟩) ?_ ?_
                  rotate_left
                  · intro w'
                    go_simp
                    with_reducible rfl
                  rotate_left
                  · simp only [Act.put, List.setIfInBounds_toArray, List.set_cons_zero, List.set_cons_succ, i64_w, i32_w]
                    rfl
                  refine pure_ (i := 8) (N := some 40) (v := ?_) (a' := ?_) #[true, true, true, true, false, true, true, true, true, false, false, false, false, false, false, false, false, false, false, false] rfl rfl (any_of HT_.out (by kernel_rfl)) (fun _ _ _ h => h) (Or.inl ⟨by rfl, ?_⟩) ?_ ?_
                  rotate_left
                  · intro w'
                    go_simp
                    with_reducible rfl
                  rotate_left
                  · simp only [Act.put, List.setIfInBounds_toArray, List.set_cons_zero, List.set_cons_succ, i64_w, i32_w]
                    rfl
                  refine pure_ (i := 10) (N := some 42) (v := ?_) (a' := ?_) #[true, true, true, true, false, true, true, true, true, false, true, false, false, false, false, false, false, false, false, false] rfl rfl (any_of HT_.out (by kernel_rfl)) (fun _ _ _ h => h) (Or.inl ⟨by rfl, ?_⟩) ?_ ?_
                  rotate_left
                  · intro w'
                    go_simp
                    with_reducible rfl
                  rotate_left
                  · simp only [Act.put, List.setIfInBounds_toArray, List.set_cons_zero, List.set_cons_succ, i64_w, i32_w]
                    rfl
                  refine pure_ (i := 11) (N := some 43) (v := ?_) (a' := ?_) #[true, true, true, true, false, true, true, true, true, false, true, true, false, false, false, false, false, false, false, false] rfl rfl (any_of HT_.out (by kernel_rfl)) (fun _ _ _ h => h) (Or.inl ⟨by rfl, ?_⟩) ?_ ?_
                  rotate_left
                  · intro w'
                    go_simp
                    with_reducible rfl
                  rotate_left
                  · simp only [Act.put, List.setIfInBounds_toArray, List.set_cons_zero, List.set_cons_succ, i64_w, i32_w]
                    rfl
                  refine pure_ (i := 12) (N := some 44) (v := ?_) (a' := ?_) #[true, true, true, true, false, true, true, true, true, false, true, true, true, false, false, false, false, false, false, false] rfl rfl (any_of HT_.out (by kernel_rfl)) (fun _ _ _ h => h) (Or.inl ⟨by rfl, ?_⟩) ?_ ?_
                  rotate_left
                  · intro w'
                    go_simp
                    with_reducible rfl
                  rotate_left
                  · simp only [Act.put, List.setIfInBounds_toArray, List.set_cons_zero, List.set_cons_succ, i64_w, i32_w]
                    rfl
                  refine pure_ (i := 13) (N := some 45) (v := ?_) (a' := ?_) #[true, true, true, true, false, true, true, true, true, false, true, true, true, true, false, false, false, false, false, false] rfl rfl (any_of HT_.out (by kernel_rfl)) (fun _ _ _ h => h) (Or.inl ⟨by rfl, ?_⟩) ?_ ?_
                  rotate_left
                  · intro w'
                    go_simp
                    with_reducible rfl
                  rotate_left
                  · simp only [Act.put, List.setIfInBounds_toArray, List.set_cons_zero, List.set_cons_succ, i64_w, i32_w]
                    rfl
                  refine pure_ (i := 15) (N := some 47) (v := ?_) (a' := ?_) #[true, true, true, true, false, true, true, true, true, false, true, true, true, true, false, true, false, false, false, false] rfl rfl (any_of HT_.out (by kernel_rfl)) (fun _ _ _ h => h) (Or.inl ⟨by rfl, ?_⟩) ?_ ?_
                  rotate_left
                  · intro w'
                    go_simp
                    with_reducible rfl
                  rotate_left
                  · simp only [Act.put, List.setIfInBounds_toArray, List.set_cons_zero, List.set_cons_succ, i64_w, i32_w]
                    rfl
                  refine take_ (i := 4) (N := some 36) (v := ?_) (a' := ?_) #[true, true, true, true, true, true, true, true, true, false, true, true, true, true, false, true, false, false, false, false] rfl rfl (take_ofW HT_.out HW_.out (by kernel_rfl)) (fun _ _ _ h => h) (Or.inl ⟨by rfl, ?_⟩) hHeld ?_ ?_
                  rotate_left
                  · rintro w' ⟨s0, s1, s2, s3, s4, s5, s6, s7, s8, s9, s10, s11, s12, s13, s14⟩
                    go_simp
                    with_reducible rfl
                  rotate_left
                  · simp only [Act.put, List.setIfInBounds_toArray, List.set_cons_zero, List.set_cons_succ, i64_w, i32_w]
                    rfl
                  refine take_ (i := 9) (N := some 41) (v := ?_) (a' := ?_) #[true, true, true, true, true, true, true, true, true, true, true, true, true, true, false, true, false, false, false, false] rfl rfl (take_ofW HT_.out HW_.out (by kernel_rfl)) (fun _ _ _ h => h) (Or.inl ⟨by rfl, ?_⟩) hHeld ?_ ?_
                  rotate_left
                  · rintro w' ⟨s0, s1, s2, s3, s4, s5, s6, s7, s8, s9, s10, s11, s12, s13, s14⟩
                    go_simp
                    with_reducible rfl
                  rotate_left
                  · simp only [Act.put, List.setIfInBounds_toArray, List.set_cons_zero, List.set_cons_succ, i64_w, i32_w]
                    rfl
                  refine take_ (i := 14) (N := some 46) (v := ?_) (a' := ?_) #[true, true, true, true, true, true, true, true, true, true, true, true, true, true, true, true, false, false, false, false] rfl rfl (take_ofW HT_.out HW_.out (by kernel_rfl)) (fun _ _ _ h => h) (Or.inl ⟨by rfl, ?_⟩) hHeld ?_ ?_
                  rotate_left
                  · rintro w' ⟨s0, s1, s2, s3, s4, s5, s6, s7, s8, s9, s10, s11, s12, s13, s14⟩
                    go_simp
                    with_reducible rfl
                  rotate_left
                  · simp only [Act.put, List.setIfInBounds_toArray, List.set_cons_zero, List.set_cons_succ, i64_w, i32_w]
                    rfl
                  refine pure_ (i := 16) (N := some 48) (v := ?_) (a' := ?_) #[true, true, true, true, true, true, true, true, true, true, true, true, true, true, true, true, true, false, false, false] rfl rfl (any_of HT_.out (by kernel_rfl)) (fun _ _ _ h => h) (Or.inl ⟨by rfl, ?_⟩) ?_ ?_
                  rotate_left
                  · intro w'
                    go_simp
                    with_reducible rfl
                  rotate_left
                  · simp only [Act.put, List.setIfInBounds_toArray, List.set_cons_zero, List.set_cons_succ, i64_w, i32_w]
                    rfl
                  refine join_ (σ := Value × Nat) 1 #[true, true, true, true, true, true, true, true, true, true, true, true, true, true, true, true, true, true, true, false] (fun s_ => [(49, .agg #[.bool t469, .int .i64 t470, .bool t471, .int .i64 t472, s_.1]), (7, .pointer (some ⟨s_.2, 0, none⟩))]) (fun s_ w' => (w'.cell? (ad466.add ((t465).toNat * 5)) = some (.bool ((rd_T35 t462 t465).f0)) ∧ w'.cell? ⟨(ad466.add ((t465).toNat * 5)).block, (ad466.add ((t465).toNat * 5)).off + 1, none⟩ = some (.int .i64 ((rd_T35 t462 t465).f1)) ∧ w'.cell? ⟨(ad466.add ((t465).toNat * 5)).block, (ad466.add ((t465).toNat * 5)).off + 2, none⟩ = some (.bool ((rd_T35 t462 t465).f2)) ∧ w'.cell? ⟨(ad466.add ((t465).toNat * 5)).block, (ad466.add ((t465).toNat * 5)).off + 3, none⟩ = some (.int .i64 ((rd_T35 t462 t465).f3)) ∧ w'.cell? ⟨(ad466.add ((t465).toNat * 5)).block, (ad466.add ((t465).toNat * 5)).off + 4, none⟩ = some (.slice A466_4 ((rd_T35 t462 t465).f4).length c466_4) ∧ w'.cell? (ad466.add ((t465).toNat * 5)) = some (.bool ((rd_T35 t462 t465).f0)) ∧ w'.cell? ⟨(ad466.add ((t465).toNat * 5)).block, (ad466.add ((t465).toNat * 5)).off + 1, none⟩ = some (.int .i64 ((rd_T35 t462 t465).f1)) ∧ w'.cell? ⟨(ad466.add ((t465).toNat * 5)).block, (ad466.add ((t465).toNat * 5)).off + 2, none⟩ = some (.bool ((rd_T35 t462 t465).f2)) ∧ w'.cell? ⟨(ad466.add ((t465).toNat * 5)).block, (ad466.add ((t465).toNat * 5)).off + 3, none⟩ = some (.int .i64 ((rd_T35 t462 t465).f3)) ∧ w'.cell? ⟨(ad466.add ((t465).toNat * 5)).block, (ad466.add ((t465).toNat * 5)).off + 4, none⟩ = some (.slice A466_4 ((rd_T35 t462 t465).f4).length c466_4) ∧ w'.cell? (ad466.add ((t465).toNat * 5)) = some (.bool ((rd_T35 t462 t465).f0)) ∧ w'.cell? ⟨(ad466.add ((t465).toNat * 5)).block, (ad466.add ((t465).toNat * 5)).off + 1, none⟩ = some (.int .i64 ((rd_T35 t462 t465).f1)) ∧ w'.cell? ⟨(ad466.add ((t465).toNat * 5)).block, (ad466.add ((t465).toNat * 5)).off + 2, none⟩ = some (.bool ((rd_T35 t462 t465).f2)) ∧ w'.cell? ⟨(ad466.add ((t465).toNat * 5)).block, (ad466.add ((t465).toNat * 5)).off + 3, none⟩ = some (.int .i64 ((rd_T35 t462 t465).f3)) ∧ w'.cell? ⟨(ad466.add ((t465).toNat * 5)).block, (ad466.add ((t465).toNat * 5)).off + 4, none⟩ = some (.slice A466_4 ((rd_T35 t462 t465).f4).length c466_4)) ∧ (Kd.V (Kd.int .u8) 5 w' w.heap.size (fun k_ => some k_ ≠ (s_.1 : Value).ownBlock ∧ some k_ ≠ (.slice (some ad466) t462.length co16 : Value).ownBlock ∧ k_ ≠ s_.2) (.slice A466_4 ((rd_T35 t462 t465).f4).length c466_4) ((rd_T35 t462 t465).f4)) ∧ (Kd.V (Kd.int .u8) 5 w' w.heap.size (fun k_ => some k_ ≠ (s_.1 : Value).ownBlock ∧ some k_ ≠ (.slice (some ad466) t462.length co16 : Value).ownBlock ∧ k_ ≠ s_.2) (.slice A466_4 ((rd_T35 t462 t465).f4).length c466_4) ((rd_T35 t462 t465).f4)) ∧ (Kd.V (Kd.int .u8) 5 w' w.heap.size (fun k_ => some k_ ≠ (s_.1 : Value).ownBlock ∧ some k_ ≠ (.slice (some ad466) t462.length co16 : Value).ownBlock ∧ k_ ≠ s_.2) (.slice A466_4 ((rd_T35 t462 t465).f4).length c466_4) ((rd_T35 t462 t465).f4)) ∧ (Kd.R (Kd.int .u8) 5 w' w.heap.size (fun _ => True) s_.1 t473) ∧ (Kd.N k35 35 w' w.heap.size (fun k_ => some k_ ≠ (s_.1 : Value).ownBlock ∧ k_ ≠ s_.2) (.slice (some ad466) t462.length co16) t462) ∧ (w'.heap[s_.2]? = some (.cells #[.bool false, .int .i64 0, .bool false, .int .i64 0, .slice none 0 0] 35 (0, 0))) ∧ (w.heap.size ≤ s_.2) ∧ (w.heap.size ≤ s_.2) ∧ (Below w.heap.size w w')) ?_ ?_
                  rotate_left
                  · intro hCont
                    refine two_ (i := 17) (j := 18) (Ni := some 49) (Nj := some 7) #[true, true, true, true, true, true, true, true, true, true, true, true, true, true, true, true, true, true, false, false] #[true, true, true, true, true, true, true, true, true, true, true, true, true, true, true, true, true, false, true, false] rfl rfl rfl rfl (two_of HT_.out (by kernel_rfl)) (by decide) (by decide) (fun K hK => ?_) (fun K hK => ?_)
                    · skip
                      refine goes_ Try.func25 (by kernel_rfl) rfl #[.agg #[.bool ((rd_T35 t462 t465).f0), .int .i64 ((rd_T35 t462 t465).f1), .bool ((rd_T35 t462 t465).f2), .int .i64 0, .slice A1 l1.length c1]] (by rfl) rfl rfl (by (try simp only [List.map_toArray, List.map_cons, List.map_nil]); first | done | rfl | (simp only [List.length_drop, List.length_take]; rfl)) ?_
                      with_reducible refine (phaetonref06_Made.calls ((rd_T35 t462 t465).f0) ((rd_T35 t462 t465).f1) ((rd_T35 t462 t465).f2) 0 _ _ l1 t469 t470 t471 t472 t473 _ ?side1 ?side2 A22.out).mono ?_
                      (case side1 => repeat (first | exact (Kd.C_below HR1.out HB.out) | (with_reducible refine Kd.C_alloc ?_ _) | (with_reducible refine Kd.C_drewN ?_ _) | (with_reducible refine Kd.C_drew ?_)))
                      (case side2 => exact HC1.out)
                      rintro e w28 ⟨v474, rfl, ho0, hb⟩
                      have HS0_ := (hb.cell (World.block_lt_of_cell? _ _ (hHeld.1))).trans (hHeld.1)
                      have HS1_ := (hb.cell (World.block_lt_of_cell? _ _ (hHeld.2.1))).trans (hHeld.2.1)
                      have HS2_ := (hb.cell (World.block_lt_of_cell? _ _ (hHeld.2.2.1))).trans (hHeld.2.2.1)
                      have HS3_ := (hb.cell (World.block_lt_of_cell? _ _ (hHeld.2.2.2.1))).trans (hHeld.2.2.2.1)
                      have HS4_ := (hb.cell (World.block_lt_of_cell? _ _ (hHeld.2.2.2.2.1))).trans (hHeld.2.2.2.2.1)
                      have HS5_ := (hb.cell (World.block_lt_of_cell? _ _ (hHeld.2.2.2.2.2.1))).trans (hHeld.2.2.2.2.2.1)
                      have HS6_ := (hb.cell (World.block_lt_of_cell? _ _ (hHeld.2.2.2.2.2.2.1))).trans (hHeld.2.2.2.2.2.2.1)
                      have HS7_ := (hb.cell (World.block_lt_of_cell? _ _ (hHeld.2.2.2.2.2.2.2.1))).trans (hHeld.2.2.2.2.2.2.2.1)
                      have HS8_ := (hb.cell (World.block_lt_of_cell? _ _ (hHeld.2.2.2.2.2.2.2.2.1))).trans (hHeld.2.2.2.2.2.2.2.2.1)
                      have HS9_ := (hb.cell (World.block_lt_of_cell? _ _ (hHeld.2.2.2.2.2.2.2.2.2.1))).trans (hHeld.2.2.2.2.2.2.2.2.2.1)
                      have HS10_ := (hb.cell (World.block_lt_of_cell? _ _ (hHeld.2.2.2.2.2.2.2.2.2.2.1))).trans (hHeld.2.2.2.2.2.2.2.2.2.2.1)
                      have HS11_ := (hb.cell (World.block_lt_of_cell? _ _ (hHeld.2.2.2.2.2.2.2.2.2.2.2.1))).trans (hHeld.2.2.2.2.2.2.2.2.2.2.2.1)
                      have HS12_ := (hb.cell (World.block_lt_of_cell? _ _ (hHeld.2.2.2.2.2.2.2.2.2.2.2.2.1))).trans (hHeld.2.2.2.2.2.2.2.2.2.2.2.2.1)
                      have HS13_ := (hb.cell (World.block_lt_of_cell? _ _ (hHeld.2.2.2.2.2.2.2.2.2.2.2.2.2.1))).trans (hHeld.2.2.2.2.2.2.2.2.2.2.2.2.2.1)
                      have HS14_ := (hb.cell (World.block_lt_of_cell? _ _ (hHeld.2.2.2.2.2.2.2.2.2.2.2.2.2.2))).trans (hHeld.2.2.2.2.2.2.2.2.2.2.2.2.2.2)
                      refine ⟨_, rfl, ?_⟩
                      have n0_ := Aside0.mk (Kd.N_elder' (by (with_reducible repeat (first | apply Kd.N_alloc | apply Kd.N_drewN | apply Kd.N_drew)); exact HO_0.out) (Kd.R_base ho0) hb)
                      have n1_ := Aside0.mk (Kd.V_elder' (by (with_reducible repeat (first | apply Kd.V_alloc | apply Kd.V_drewN | apply Kd.V_drew)); exact HL466_4.out) (Kd.R_base ho0) hb)
                      have n2_ := Aside0.mk (Kd.V_elder' (by (with_reducible repeat (first | apply Kd.V_alloc | apply Kd.V_drewN | apply Kd.V_drew)); exact HL467_4.out) (Kd.R_base ho0) hb)
                      have n3_ := Aside0.mk (Kd.V_elder' (by (with_reducible repeat (first | apply Kd.V_alloc | apply Kd.V_drewN | apply Kd.V_drew)); exact HL468_4.out) (Kd.R_base ho0) hb)
                      have n4_ := Aside0.mk (Kd.R_lower ho0 (below_size (by repeat (first | (with_reducible first | exact HB.out | apply below_alloc | apply pw_below_drewN | apply below_drew1) | exact HB.out))))
                      have n5_ := Aside0.mk (HW.C_carry HR466_4.out hb (by repeat (first | (with_reducible exact HR466_4.out) | (with_reducible refine Kd.C_alloc ?_ _) | (with_reducible refine Kd.C_drewN ?_ _) | (with_reducible refine Kd.C_drew ?_) | exact HR466_4.out)))
                      have n6_ := Aside0.mk (HW.C_carry HR467_4.out hb (by repeat (first | (with_reducible exact HR467_4.out) | (with_reducible refine Kd.C_alloc ?_ _) | (with_reducible refine Kd.C_drewN ?_ _) | (with_reducible refine Kd.C_drew ?_) | exact HR467_4.out)))
                      have n7_ := Aside0.mk (HW.C_carry HR468_4.out hb (by repeat (first | (with_reducible exact HR468_4.out) | (with_reducible refine Kd.C_alloc ?_ _) | (with_reducible refine Kd.C_drewN ?_ _) | (with_reducible refine Kd.C_drew ?_) | exact HR468_4.out)))
                      have n8_ := Aside0.mk (below_step (by repeat (first | (with_reducible first | exact HB.out | apply below_alloc | apply pw_below_drewN | apply below_drew1) | exact HB.out)) hb)
                      clear HO_0
                      clear HL466_4
                      clear HL467_4
                      clear HL468_4
                      clear HR466_4
                      clear HR467_4
                      clear HR468_4
                      clear HB
                      have HO_0 := n0_
                      have HL466_4 := n1_
                      have HL467_4 := n2_
                      have HL468_4 := n3_
                      have HO475 := n4_
                      have HR466_4 := n5_
                      have HR467_4 := n6_
                      have HR468_4 := n7_
                      have HB := n8_
                      clear n0_ n1_ n2_ n3_ n4_ n5_ n6_ n7_ n8_
                      (try clear hb)
                      (try clear hb2)
                      (try clear hk)
                      (try clear hi)
                      (try clear ho0)
                      refine hK.out _ _ ⟨HS0_, HS1_, HS2_, HS3_, HS4_, HS5_, HS6_, HS7_, HS8_, HS9_, HS10_, HS11_, HS12_, HS13_, HS14_⟩ (fun hHeld => ?_)
                      clear hK K
                      refine norm_ (a' := ?_) ?_ ?_
                      rotate_left
                      · show Act.put _ (some 49) _ = _
                        simp only [Act.put, List.setIfInBounds_toArray, List.set_cons_zero, List.set_cons_succ, i64_w, i32_w]
                        rfl
                      refine one_ (i := 18) (N := some 7) #[true, true, true, true, true, true, true, true, true, true, true, true, true, true, true, true, true, true, true, false] rfl rfl (one_of HT_.out (by kernel_rfl)) (by decide) (fun K hK => ?_)
                      refine box_step ?hg (N := 7) ?hd (cs := #[.bool false, .int .i64 0, .bool false, .int .i64 0, .slice none 0 0]) (t := 35) ?hr ?_; (case hd => rfl); (case hg => rfl); (case hr => first | (go_simp; done) | (go_simp; rfl))
                      intro gb476 hg w29 hbox hb
                      have HS0_ := (hb.cell (World.block_lt_of_cell? _ _ (hHeld.1))).trans (hHeld.1)
                      have HS1_ := (hb.cell (World.block_lt_of_cell? _ _ (hHeld.2.1))).trans (hHeld.2.1)
                      have HS2_ := (hb.cell (World.block_lt_of_cell? _ _ (hHeld.2.2.1))).trans (hHeld.2.2.1)
                      have HS3_ := (hb.cell (World.block_lt_of_cell? _ _ (hHeld.2.2.2.1))).trans (hHeld.2.2.2.1)
                      have HS4_ := (hb.cell (World.block_lt_of_cell? _ _ (hHeld.2.2.2.2.1))).trans (hHeld.2.2.2.2.1)
                      have HS5_ := (hb.cell (World.block_lt_of_cell? _ _ (hHeld.2.2.2.2.2.1))).trans (hHeld.2.2.2.2.2.1)
                      have HS6_ := (hb.cell (World.block_lt_of_cell? _ _ (hHeld.2.2.2.2.2.2.1))).trans (hHeld.2.2.2.2.2.2.1)
                      have HS7_ := (hb.cell (World.block_lt_of_cell? _ _ (hHeld.2.2.2.2.2.2.2.1))).trans (hHeld.2.2.2.2.2.2.2.1)
                      have HS8_ := (hb.cell (World.block_lt_of_cell? _ _ (hHeld.2.2.2.2.2.2.2.2.1))).trans (hHeld.2.2.2.2.2.2.2.2.1)
                      have HS9_ := (hb.cell (World.block_lt_of_cell? _ _ (hHeld.2.2.2.2.2.2.2.2.2.1))).trans (hHeld.2.2.2.2.2.2.2.2.2.1)
                      have HS10_ := (hb.cell (World.block_lt_of_cell? _ _ (hHeld.2.2.2.2.2.2.2.2.2.2.1))).trans (hHeld.2.2.2.2.2.2.2.2.2.2.1)
                      have HS11_ := (hb.cell (World.block_lt_of_cell? _ _ (hHeld.2.2.2.2.2.2.2.2.2.2.2.1))).trans (hHeld.2.2.2.2.2.2.2.2.2.2.2.1)
                      have HS12_ := (hb.cell (World.block_lt_of_cell? _ _ (hHeld.2.2.2.2.2.2.2.2.2.2.2.2.1))).trans (hHeld.2.2.2.2.2.2.2.2.2.2.2.2.1)
                      have HS13_ := (hb.cell (World.block_lt_of_cell? _ _ (hHeld.2.2.2.2.2.2.2.2.2.2.2.2.2.1))).trans (hHeld.2.2.2.2.2.2.2.2.2.2.2.2.2.1)
                      have HS14_ := (hb.cell (World.block_lt_of_cell? _ _ (hHeld.2.2.2.2.2.2.2.2.2.2.2.2.2.2))).trans (hHeld.2.2.2.2.2.2.2.2.2.2.2.2.2.2)
                      have n0_ := Aside0.mk (Kd.N_below (Kd.N_elderB (by (with_reducible repeat (first | apply Kd.N_alloc | apply Kd.N_drewN | apply Kd.N_drew)); exact HO_0.out) gb476 (Nat.le_of_eq hg.symm)) hb)
                      have n1_ := Aside0.mk (Kd.V_below (Kd.V_elderB (by (with_reducible repeat (first | apply Kd.V_alloc | apply Kd.V_drewN | apply Kd.V_drew)); exact HL466_4.out) gb476 (Nat.le_of_eq hg.symm)) hb)
                      have n2_ := Aside0.mk (Kd.V_below (Kd.V_elderB (by (with_reducible repeat (first | apply Kd.V_alloc | apply Kd.V_drewN | apply Kd.V_drew)); exact HL467_4.out) gb476 (Nat.le_of_eq hg.symm)) hb)
                      have n3_ := Aside0.mk (Kd.V_below (Kd.V_elderB (by (with_reducible repeat (first | apply Kd.V_alloc | apply Kd.V_drewN | apply Kd.V_drew)); exact HL468_4.out) gb476 (Nat.le_of_eq hg.symm)) hb)
                      have n4_ := Aside0.mk (Kd.R_below (by (with_reducible repeat (first | apply Kd.R_alloc | apply Kd.R_drewN | apply Kd.R_drew)); exact HO475.out) hb)
                      have n5_ := Aside0.mk (HW.C_carry HR466_4.out hb (by repeat (first | (with_reducible exact HR466_4.out) | (with_reducible refine Kd.C_alloc ?_ _) | (with_reducible refine Kd.C_drewN ?_ _) | (with_reducible refine Kd.C_drew ?_) | exact HR466_4.out)))
                      have n6_ := Aside0.mk (HW.C_carry HR467_4.out hb (by repeat (first | (with_reducible exact HR467_4.out) | (with_reducible refine Kd.C_alloc ?_ _) | (with_reducible refine Kd.C_drewN ?_ _) | (with_reducible refine Kd.C_drew ?_) | exact HR467_4.out)))
                      have n7_ := Aside0.mk (HW.C_carry HR468_4.out hb (by repeat (first | (with_reducible exact HR468_4.out) | (with_reducible refine Kd.C_alloc ?_ _) | (with_reducible refine Kd.C_drewN ?_ _) | (with_reducible refine Kd.C_drew ?_) | exact HR468_4.out)))
                      have n8_ := Aside0.mk (below_step (by repeat (first | (with_reducible first | exact HB.out | apply below_alloc | apply pw_below_drewN | apply below_drew1) | exact HB.out)) hb)
                      have n9_ := Aside0.mk (hbox)
                      have n10_ := Aside0.mk ((by rw [hg]; exact (below_size (by repeat (first | (with_reducible first | exact HB.out | apply below_alloc | apply pw_below_drewN | apply below_drew1) | exact HB.out))) : w.heap.size ≤ gb476))
                      have n11_ := Aside0.mk ((by rw [hg]; exact (below_size (by repeat (first | (with_reducible first | exact HB.out | apply below_alloc | apply pw_below_drewN | apply below_drew1) | exact HB.out))) : w.heap.size ≤ gb476))
                      clear HO_0
                      clear HL466_4
                      clear HL467_4
                      clear HL468_4
                      clear HO475
                      clear HR466_4
                      clear HR467_4
                      clear HR468_4
                      clear HB
                      have HO_0 := n0_
                      have HL466_4 := n1_
                      have HL467_4 := n2_
                      have HL468_4 := n3_
                      have HO475 := n4_
                      have HR466_4 := n5_
                      have HR467_4 := n6_
                      have HR468_4 := n7_
                      have HB := n8_
                      have BK476 := n9_
                      have GW476 := n10_
                      have GE476 := n11_
                      clear n0_ n1_ n2_ n3_ n4_ n5_ n6_ n7_ n8_ n9_ n10_ n11_
                      clear hb hbox hg
                      refine hK.out _ _ ⟨HS0_, HS1_, HS2_, HS3_, HS4_, HS5_, HS6_, HS7_, HS8_, HS9_, HS10_, HS11_, HS12_, HS13_, HS14_⟩ (fun hHeld => ?_)
                      clear hK K
                      refine norm_ (a' := ?_) ?_ ?_
                      rotate_left
                      · show Act.put _ (some 7) _ = _
                        simp only [Act.put, List.setIfInBounds_toArray, List.set_cons_zero, List.set_cons_succ, i64_w, i32_w]
                        rfl
                      exact norm_ (by simp only [putAll, Act.put, List.setIfInBounds_toArray, List.set_cons_zero, List.set_cons_succ]) (hCont (v474, gb476) _ ⟨hHeld, (by (with_reducible repeat (first | apply Kd.V_alloc | apply Kd.V_drewN | apply Kd.V_drew)); exact Kd.V_mono HL466_4.out (fun _ hk => ⟨hk.1.2, ⟨hk.1.1.2, hk.2⟩⟩)), (by (with_reducible repeat (first | apply Kd.V_alloc | apply Kd.V_drewN | apply Kd.V_drew)); exact Kd.V_mono HL467_4.out (fun _ hk => ⟨hk.1.2, ⟨hk.1.1.2, hk.2⟩⟩)), (by (with_reducible repeat (first | apply Kd.V_alloc | apply Kd.V_drewN | apply Kd.V_drew)); exact Kd.V_mono HL468_4.out (fun _ hk => ⟨hk.1.2, ⟨hk.1.1.2, hk.2⟩⟩)), (by (with_reducible repeat (first | apply Kd.R_alloc | apply Kd.R_drewN | apply Kd.R_drew)); exact HO475.out), (by (with_reducible repeat (first | apply Kd.N_alloc | apply Kd.N_drewN | apply Kd.N_drew)); exact Kd.N_mono HO_0.out (fun k_ hk => by first | exact ⟨hk.1.2, hk.2⟩ | (refine ⟨?_, ?_⟩ <;> first | exact hk.1 | exact hk.2 | exact hk.1.2 | exact hk.2.2 | exact hk.1.1 | exact hk.2.1))), (by (with_reducible repeat (first | refine blk_drewN ?_ _ | refine blk_drew ?_ | refine blk_alloc ?_ _)); exact BK476.out), GW476.out, GE476.out, (by repeat (first | (with_reducible first | exact HB.out | apply below_alloc | apply pw_below_drewN | apply below_drew1 | refine below_set ?_ GE476.out) | exact HB.out))⟩)
                    · skip
                      refine box_step ?hg (N := 7) ?hd (cs := #[.bool false, .int .i64 0, .bool false, .int .i64 0, .slice none 0 0]) (t := 35) ?hr ?_; (case hd => rfl); (case hg => rfl); (case hr => first | (go_simp; done) | (go_simp; rfl))
                      intro gb476 hg w28 hbox hb
                      have HS0_ := (hb.cell (World.block_lt_of_cell? _ _ (hHeld.1))).trans (hHeld.1)
                      have HS1_ := (hb.cell (World.block_lt_of_cell? _ _ (hHeld.2.1))).trans (hHeld.2.1)
                      have HS2_ := (hb.cell (World.block_lt_of_cell? _ _ (hHeld.2.2.1))).trans (hHeld.2.2.1)
                      have HS3_ := (hb.cell (World.block_lt_of_cell? _ _ (hHeld.2.2.2.1))).trans (hHeld.2.2.2.1)
                      have HS4_ := (hb.cell (World.block_lt_of_cell? _ _ (hHeld.2.2.2.2.1))).trans (hHeld.2.2.2.2.1)
                      have HS5_ := (hb.cell (World.block_lt_of_cell? _ _ (hHeld.2.2.2.2.2.1))).trans (hHeld.2.2.2.2.2.1)
                      have HS6_ := (hb.cell (World.block_lt_of_cell? _ _ (hHeld.2.2.2.2.2.2.1))).trans (hHeld.2.2.2.2.2.2.1)
                      have HS7_ := (hb.cell (World.block_lt_of_cell? _ _ (hHeld.2.2.2.2.2.2.2.1))).trans (hHeld.2.2.2.2.2.2.2.1)
                      have HS8_ := (hb.cell (World.block_lt_of_cell? _ _ (hHeld.2.2.2.2.2.2.2.2.1))).trans (hHeld.2.2.2.2.2.2.2.2.1)
                      have HS9_ := (hb.cell (World.block_lt_of_cell? _ _ (hHeld.2.2.2.2.2.2.2.2.2.1))).trans (hHeld.2.2.2.2.2.2.2.2.2.1)
                      have HS10_ := (hb.cell (World.block_lt_of_cell? _ _ (hHeld.2.2.2.2.2.2.2.2.2.2.1))).trans (hHeld.2.2.2.2.2.2.2.2.2.2.1)
                      have HS11_ := (hb.cell (World.block_lt_of_cell? _ _ (hHeld.2.2.2.2.2.2.2.2.2.2.2.1))).trans (hHeld.2.2.2.2.2.2.2.2.2.2.2.1)
                      have HS12_ := (hb.cell (World.block_lt_of_cell? _ _ (hHeld.2.2.2.2.2.2.2.2.2.2.2.2.1))).trans (hHeld.2.2.2.2.2.2.2.2.2.2.2.2.1)
                      have HS13_ := (hb.cell (World.block_lt_of_cell? _ _ (hHeld.2.2.2.2.2.2.2.2.2.2.2.2.2.1))).trans (hHeld.2.2.2.2.2.2.2.2.2.2.2.2.2.1)
                      have HS14_ := (hb.cell (World.block_lt_of_cell? _ _ (hHeld.2.2.2.2.2.2.2.2.2.2.2.2.2.2))).trans (hHeld.2.2.2.2.2.2.2.2.2.2.2.2.2.2)
                      have n0_ := Aside0.mk (Kd.N_below (Kd.N_elderB (by (with_reducible repeat (first | apply Kd.N_alloc | apply Kd.N_drewN | apply Kd.N_drew)); exact HO_0.out) gb476 (Nat.le_of_eq hg.symm)) hb)
                      have n1_ := Aside0.mk (Kd.V_below (Kd.V_elderB (by (with_reducible repeat (first | apply Kd.V_alloc | apply Kd.V_drewN | apply Kd.V_drew)); exact HL466_4.out) gb476 (Nat.le_of_eq hg.symm)) hb)
                      have n2_ := Aside0.mk (Kd.V_below (Kd.V_elderB (by (with_reducible repeat (first | apply Kd.V_alloc | apply Kd.V_drewN | apply Kd.V_drew)); exact HL467_4.out) gb476 (Nat.le_of_eq hg.symm)) hb)
                      have n3_ := Aside0.mk (Kd.V_below (Kd.V_elderB (by (with_reducible repeat (first | apply Kd.V_alloc | apply Kd.V_drewN | apply Kd.V_drew)); exact HL468_4.out) gb476 (Nat.le_of_eq hg.symm)) hb)
                      have n4_ := Aside0.mk (HW.C_carry HR466_4.out hb (by repeat (first | (with_reducible exact HR466_4.out) | (with_reducible refine Kd.C_alloc ?_ _) | (with_reducible refine Kd.C_drewN ?_ _) | (with_reducible refine Kd.C_drew ?_) | exact HR466_4.out)))
                      have n5_ := Aside0.mk (HW.C_carry HR467_4.out hb (by repeat (first | (with_reducible exact HR467_4.out) | (with_reducible refine Kd.C_alloc ?_ _) | (with_reducible refine Kd.C_drewN ?_ _) | (with_reducible refine Kd.C_drew ?_) | exact HR467_4.out)))
                      have n6_ := Aside0.mk (HW.C_carry HR468_4.out hb (by repeat (first | (with_reducible exact HR468_4.out) | (with_reducible refine Kd.C_alloc ?_ _) | (with_reducible refine Kd.C_drewN ?_ _) | (with_reducible refine Kd.C_drew ?_) | exact HR468_4.out)))
                      have n7_ := Aside0.mk (below_step (by repeat (first | (with_reducible first | exact HB.out | apply below_alloc | apply pw_below_drewN | apply below_drew1) | exact HB.out)) hb)
                      have n8_ := Aside0.mk (hbox)
                      have n9_ := Aside0.mk ((by rw [hg]; exact (below_size (by repeat (first | (with_reducible first | exact HB.out | apply below_alloc | apply pw_below_drewN | apply below_drew1) | exact HB.out))) : w.heap.size ≤ gb476))
                      have n10_ := Aside0.mk ((by rw [hg]; exact (below_size (by repeat (first | (with_reducible first | exact HB.out | apply below_alloc | apply pw_below_drewN | apply below_drew1) | exact HB.out))) : w.heap.size ≤ gb476))
                      clear HO_0
                      clear HL466_4
                      clear HL467_4
                      clear HL468_4
                      clear HR466_4
                      clear HR467_4
                      clear HR468_4
                      clear HB
                      have HO_0 := n0_
                      have HL466_4 := n1_
                      have HL467_4 := n2_
                      have HL468_4 := n3_
                      have HR466_4 := n4_
                      have HR467_4 := n5_
                      have HR468_4 := n6_
                      have HB := n7_
                      have BK476 := n8_
                      have GW476 := n9_
                      have GE476 := n10_
                      clear n0_ n1_ n2_ n3_ n4_ n5_ n6_ n7_ n8_ n9_ n10_
                      clear hb hbox hg
                      refine hK.out _ _ ⟨HS0_, HS1_, HS2_, HS3_, HS4_, HS5_, HS6_, HS7_, HS8_, HS9_, HS10_, HS11_, HS12_, HS13_, HS14_⟩ (fun hHeld => ?_)
                      clear hK K
                      refine norm_ (a' := ?_) ?_ ?_
                      rotate_left
                      · show Act.put _ (some 7) _ = _
                        simp only [Act.put, List.setIfInBounds_toArray, List.set_cons_zero, List.set_cons_succ, i64_w, i32_w]
                        rfl
                      refine one_ (i := 17) (N := some 49) #[true, true, true, true, true, true, true, true, true, true, true, true, true, true, true, true, true, true, true, false] rfl rfl (one_of HT_.out (by kernel_rfl)) (by decide) (fun K hK => ?_)
                      refine goes_ Try.func25 (by kernel_rfl) rfl #[.agg #[.bool ((rd_T35 t462 t465).f0), .int .i64 ((rd_T35 t462 t465).f1), .bool ((rd_T35 t462 t465).f2), .int .i64 0, .slice A1 l1.length c1]] (by rfl) rfl rfl (by (try simp only [List.map_toArray, List.map_cons, List.map_nil]); first | done | rfl | (simp only [List.length_drop, List.length_take]; rfl)) ?_
                      with_reducible refine (phaetonref06_Made.calls ((rd_T35 t462 t465).f0) ((rd_T35 t462 t465).f1) ((rd_T35 t462 t465).f2) 0 _ _ l1 t469 t470 t471 t472 t473 _ ?side1 ?side2 A22.out).mono ?_
                      (case side1 => repeat (first | exact (Kd.C_below HR1.out HB.out) | (with_reducible refine Kd.C_alloc ?_ _) | (with_reducible refine Kd.C_drewN ?_ _) | (with_reducible refine Kd.C_drew ?_)))
                      (case side2 => exact HC1.out)
                      rintro e w29 ⟨v474, rfl, ho0, hb⟩
                      have HS0_ := (hb.cell (World.block_lt_of_cell? _ _ (hHeld.1))).trans (hHeld.1)
                      have HS1_ := (hb.cell (World.block_lt_of_cell? _ _ (hHeld.2.1))).trans (hHeld.2.1)
                      have HS2_ := (hb.cell (World.block_lt_of_cell? _ _ (hHeld.2.2.1))).trans (hHeld.2.2.1)
                      have HS3_ := (hb.cell (World.block_lt_of_cell? _ _ (hHeld.2.2.2.1))).trans (hHeld.2.2.2.1)
                      have HS4_ := (hb.cell (World.block_lt_of_cell? _ _ (hHeld.2.2.2.2.1))).trans (hHeld.2.2.2.2.1)
                      have HS5_ := (hb.cell (World.block_lt_of_cell? _ _ (hHeld.2.2.2.2.2.1))).trans (hHeld.2.2.2.2.2.1)
                      have HS6_ := (hb.cell (World.block_lt_of_cell? _ _ (hHeld.2.2.2.2.2.2.1))).trans (hHeld.2.2.2.2.2.2.1)
                      have HS7_ := (hb.cell (World.block_lt_of_cell? _ _ (hHeld.2.2.2.2.2.2.2.1))).trans (hHeld.2.2.2.2.2.2.2.1)
                      have HS8_ := (hb.cell (World.block_lt_of_cell? _ _ (hHeld.2.2.2.2.2.2.2.2.1))).trans (hHeld.2.2.2.2.2.2.2.2.1)
                      have HS9_ := (hb.cell (World.block_lt_of_cell? _ _ (hHeld.2.2.2.2.2.2.2.2.2.1))).trans (hHeld.2.2.2.2.2.2.2.2.2.1)
                      have HS10_ := (hb.cell (World.block_lt_of_cell? _ _ (hHeld.2.2.2.2.2.2.2.2.2.2.1))).trans (hHeld.2.2.2.2.2.2.2.2.2.2.1)
                      have HS11_ := (hb.cell (World.block_lt_of_cell? _ _ (hHeld.2.2.2.2.2.2.2.2.2.2.2.1))).trans (hHeld.2.2.2.2.2.2.2.2.2.2.2.1)
                      have HS12_ := (hb.cell (World.block_lt_of_cell? _ _ (hHeld.2.2.2.2.2.2.2.2.2.2.2.2.1))).trans (hHeld.2.2.2.2.2.2.2.2.2.2.2.2.1)
                      have HS13_ := (hb.cell (World.block_lt_of_cell? _ _ (hHeld.2.2.2.2.2.2.2.2.2.2.2.2.2.1))).trans (hHeld.2.2.2.2.2.2.2.2.2.2.2.2.2.1)
                      have HS14_ := (hb.cell (World.block_lt_of_cell? _ _ (hHeld.2.2.2.2.2.2.2.2.2.2.2.2.2.2))).trans (hHeld.2.2.2.2.2.2.2.2.2.2.2.2.2.2)
                      refine ⟨_, rfl, ?_⟩
                      have n0_ := Aside0.mk (Kd.N_elder' (by (with_reducible repeat (first | apply Kd.N_alloc | apply Kd.N_drewN | apply Kd.N_drew)); exact HO_0.out) (Kd.R_base ho0) hb)
                      have n1_ := Aside0.mk (Kd.V_elder' (by (with_reducible repeat (first | apply Kd.V_alloc | apply Kd.V_drewN | apply Kd.V_drew)); exact HL466_4.out) (Kd.R_base ho0) hb)
                      have n2_ := Aside0.mk (Kd.V_elder' (by (with_reducible repeat (first | apply Kd.V_alloc | apply Kd.V_drewN | apply Kd.V_drew)); exact HL467_4.out) (Kd.R_base ho0) hb)
                      have n3_ := Aside0.mk (Kd.V_elder' (by (with_reducible repeat (first | apply Kd.V_alloc | apply Kd.V_drewN | apply Kd.V_drew)); exact HL468_4.out) (Kd.R_base ho0) hb)
                      have n4_ := Aside0.mk (Kd.R_lower ho0 (below_size (by repeat (first | (with_reducible first | exact HB.out | apply below_alloc | apply pw_below_drewN | apply below_drew1 | refine below_set ?_ GE476.out) | exact HB.out))))
                      have n5_ := Aside0.mk (HW.C_carry HR466_4.out hb (by repeat (first | (with_reducible exact HR466_4.out) | (with_reducible refine Kd.C_alloc ?_ _) | (with_reducible refine Kd.C_drewN ?_ _) | (with_reducible refine Kd.C_drew ?_) | exact HR466_4.out)))
                      have n6_ := Aside0.mk (HW.C_carry HR467_4.out hb (by repeat (first | (with_reducible exact HR467_4.out) | (with_reducible refine Kd.C_alloc ?_ _) | (with_reducible refine Kd.C_drewN ?_ _) | (with_reducible refine Kd.C_drew ?_) | exact HR467_4.out)))
                      have n7_ := Aside0.mk (HW.C_carry HR468_4.out hb (by repeat (first | (with_reducible exact HR468_4.out) | (with_reducible refine Kd.C_alloc ?_ _) | (with_reducible refine Kd.C_drewN ?_ _) | (with_reducible refine Kd.C_drew ?_) | exact HR468_4.out)))
                      have n8_ := Aside0.mk (blk_below (g := gb476) (o := .cells #[.bool false, .int .i64 0, .bool false, .int .i64 0, .slice none 0 0] 35 (0, 0)) (by (with_reducible repeat (first | refine blk_drewN ?_ _ | refine blk_drew ?_ | refine blk_alloc ?_ _)); exact BK476.out) hb)
                      have n9_ := Aside0.mk (below_step (by repeat (first | (with_reducible first | exact HB.out | apply below_alloc | apply pw_below_drewN | apply below_drew1 | refine below_set ?_ GE476.out) | exact HB.out)) hb)
                      clear HO_0
                      clear HL466_4
                      clear HL467_4
                      clear HL468_4
                      clear HR466_4
                      clear HR467_4
                      clear HR468_4
                      clear BK476
                      clear HB
                      have HO_0 := n0_
                      have HL466_4 := n1_
                      have HL467_4 := n2_
                      have HL468_4 := n3_
                      have HO475 := n4_
                      have HR466_4 := n5_
                      have HR467_4 := n6_
                      have HR468_4 := n7_
                      have BK476 := n8_
                      have HB := n9_
                      clear n0_ n1_ n2_ n3_ n4_ n5_ n6_ n7_ n8_ n9_
                      (try clear hb)
                      (try clear hb2)
                      (try clear hk)
                      (try clear hi)
                      (try clear ho0)
                      refine hK.out _ _ ⟨HS0_, HS1_, HS2_, HS3_, HS4_, HS5_, HS6_, HS7_, HS8_, HS9_, HS10_, HS11_, HS12_, HS13_, HS14_⟩ (fun hHeld => ?_)
                      clear hK K
                      refine norm_ (a' := ?_) ?_ ?_
                      rotate_left
                      · show Act.put _ (some 49) _ = _
                        simp only [Act.put, List.setIfInBounds_toArray, List.set_cons_zero, List.set_cons_succ, i64_w, i32_w]
                        rfl
                      exact norm_ (by simp only [putAll, Act.put, List.setIfInBounds_toArray, List.set_cons_zero, List.set_cons_succ]) (hCont (v474, gb476) _ ⟨hHeld, (by (with_reducible repeat (first | apply Kd.V_alloc | apply Kd.V_drewN | apply Kd.V_drew)); exact Kd.V_mono HL466_4.out (fun _ hk => ⟨hk.2, ⟨hk.1.1.2, hk.1.2⟩⟩)), (by (with_reducible repeat (first | apply Kd.V_alloc | apply Kd.V_drewN | apply Kd.V_drew)); exact Kd.V_mono HL467_4.out (fun _ hk => ⟨hk.2, ⟨hk.1.1.2, hk.1.2⟩⟩)), (by (with_reducible repeat (first | apply Kd.V_alloc | apply Kd.V_drewN | apply Kd.V_drew)); exact Kd.V_mono HL468_4.out (fun _ hk => ⟨hk.2, ⟨hk.1.1.2, hk.1.2⟩⟩)), (by (with_reducible repeat (first | apply Kd.R_alloc | apply Kd.R_drewN | apply Kd.R_drew)); exact HO475.out), (by (with_reducible repeat (first | apply Kd.N_alloc | apply Kd.N_drewN | apply Kd.N_drew)); exact Kd.N_mono HO_0.out (fun _ hk => ⟨hk.2, hk.1.2⟩)), (by (with_reducible repeat (first | refine blk_drewN ?_ _ | refine blk_drew ?_ | refine blk_alloc ?_ _)); exact BK476.out), GW476.out, GE476.out, (by repeat (first | (with_reducible first | exact HB.out | apply below_alloc | apply pw_below_drewN | apply below_drew1 | refine below_set ?_ GE476.out) | exact HB.out))⟩)
                  rintro ⟨v474, gb476⟩ w30 ⟨hS_, h0_, h1_, h2_, h3_, h4_, h5_, h6_, h7_, h8_⟩
                  have n0_ : Aside0 (Kd.V (Kd.int .u8) 5 w30 w.heap.size (fun k_ => some k_ ≠ (v474 : Value).ownBlock ∧ some k_ ≠ (.slice (some ad466) t462.length co16 : Value).ownBlock ∧ k_ ≠ gb476) (.slice A466_4 ((rd_T35 t462 t465).f4).length c466_4) ((rd_T35 t462 t465).f4)) := ⟨h0_⟩
                  have n1_ : Aside0 (Kd.V (Kd.int .u8) 5 w30 w.heap.size (fun k_ => some k_ ≠ (v474 : Value).ownBlock ∧ some k_ ≠ (.slice (some ad466) t462.length co16 : Value).ownBlock ∧ k_ ≠ gb476) (.slice A466_4 ((rd_T35 t462 t465).f4).length c466_4) ((rd_T35 t462 t465).f4)) := ⟨h1_⟩
                  have n2_ : Aside0 (Kd.V (Kd.int .u8) 5 w30 w.heap.size (fun k_ => some k_ ≠ (v474 : Value).ownBlock ∧ some k_ ≠ (.slice (some ad466) t462.length co16 : Value).ownBlock ∧ k_ ≠ gb476) (.slice A466_4 ((rd_T35 t462 t465).f4).length c466_4) ((rd_T35 t462 t465).f4)) := ⟨h2_⟩
                  have n3_ : Aside0 (Kd.R (Kd.int .u8) 5 w30 w.heap.size (fun _ => True) v474 t473) := ⟨h3_⟩
                  have n4_ : Aside0 (Kd.N k35 35 w30 w.heap.size (fun k_ => some k_ ≠ (v474 : Value).ownBlock ∧ k_ ≠ gb476) (.slice (some ad466) t462.length co16) t462) := ⟨h4_⟩
                  have n5_ : Aside0 (w30.heap[gb476]? = some (.cells #[.bool false, .int .i64 0, .bool false, .int .i64 0, .slice none 0 0] 35 (0, 0))) := ⟨h5_⟩
                  have n6_ : Aside0 (w.heap.size ≤ gb476) := ⟨h6_⟩
                  have n7_ : Aside0 (w.heap.size ≤ gb476) := ⟨h7_⟩
                  have n8_ : Aside0 (Below w.heap.size w w30) := ⟨h8_⟩
                  clear HO_0
                  clear HB
                  clear h0_ h1_ h2_ h3_ h4_ h5_ h6_ h7_ h8_
                  have HL466_4 := n0_
                  have HL467_4 := n1_
                  have HL468_4 := n2_
                  have HO475 := n3_
                  have HO_0 := n4_
                  have BK476 := n5_
                  have GW476 := n6_
                  have GE476 := n7_
                  have HB := n8_
                  clear n0_ n1_ n2_ n3_ n4_ n5_ n6_ n7_ n8_
                  have hHeld : w30.cell? (ad466.add ((t465).toNat * 5)) = some (.bool ((rd_T35 t462 t465).f0)) ∧ w30.cell? ⟨(ad466.add ((t465).toNat * 5)).block, (ad466.add ((t465).toNat * 5)).off + 1, none⟩ = some (.int .i64 ((rd_T35 t462 t465).f1)) ∧ w30.cell? ⟨(ad466.add ((t465).toNat * 5)).block, (ad466.add ((t465).toNat * 5)).off + 2, none⟩ = some (.bool ((rd_T35 t462 t465).f2)) ∧ w30.cell? ⟨(ad466.add ((t465).toNat * 5)).block, (ad466.add ((t465).toNat * 5)).off + 3, none⟩ = some (.int .i64 ((rd_T35 t462 t465).f3)) ∧ w30.cell? ⟨(ad466.add ((t465).toNat * 5)).block, (ad466.add ((t465).toNat * 5)).off + 4, none⟩ = some (.slice A466_4 ((rd_T35 t462 t465).f4).length c466_4) ∧ w30.cell? (ad466.add ((t465).toNat * 5)) = some (.bool ((rd_T35 t462 t465).f0)) ∧ w30.cell? ⟨(ad466.add ((t465).toNat * 5)).block, (ad466.add ((t465).toNat * 5)).off + 1, none⟩ = some (.int .i64 ((rd_T35 t462 t465).f1)) ∧ w30.cell? ⟨(ad466.add ((t465).toNat * 5)).block, (ad466.add ((t465).toNat * 5)).off + 2, none⟩ = some (.bool ((rd_T35 t462 t465).f2)) ∧ w30.cell? ⟨(ad466.add ((t465).toNat * 5)).block, (ad466.add ((t465).toNat * 5)).off + 3, none⟩ = some (.int .i64 ((rd_T35 t462 t465).f3)) ∧ w30.cell? ⟨(ad466.add ((t465).toNat * 5)).block, (ad466.add ((t465).toNat * 5)).off + 4, none⟩ = some (.slice A466_4 ((rd_T35 t462 t465).f4).length c466_4) ∧ w30.cell? (ad466.add ((t465).toNat * 5)) = some (.bool ((rd_T35 t462 t465).f0)) ∧ w30.cell? ⟨(ad466.add ((t465).toNat * 5)).block, (ad466.add ((t465).toNat * 5)).off + 1, none⟩ = some (.int .i64 ((rd_T35 t462 t465).f1)) ∧ w30.cell? ⟨(ad466.add ((t465).toNat * 5)).block, (ad466.add ((t465).toNat * 5)).off + 2, none⟩ = some (.bool ((rd_T35 t462 t465).f2)) ∧ w30.cell? ⟨(ad466.add ((t465).toNat * 5)).block, (ad466.add ((t465).toNat * 5)).off + 3, none⟩ = some (.int .i64 ((rd_T35 t462 t465).f3)) ∧ w30.cell? ⟨(ad466.add ((t465).toNat * 5)).block, (ad466.add ((t465).toNat * 5)).off + 4, none⟩ = some (.slice A466_4 ((rd_T35 t462 t465).f4).length c466_4) := hS_
                  obtain ⟨Ao35, co35, eo35⟩ := Kd.R_slice HO475.out
                  (first | subst eo35 | (injection eo35 with f1_ f2_ f3_; have f4_ := f1_.symm; have f5_ := f3_.symm; clear f1_ f2_ f3_; subst f4_; subst f5_))
                  refine norm_ (a' := ?_) ?_ ?_
                  rotate_left
                  · simp only [putAll, Act.put, List.setIfInBounds_toArray, List.set_cons_zero, List.set_cons_succ]
                    rfl
                  refine one_ (i := 19) (N := none) #[true, true, true, true, true, true, true, true, true, true, true, true, true, true, true, true, true, true, true, true] rfl rfl (one_of HT_.out (by kernel_rfl)) (by decide) (fun K hK => ?_)
                  have hs31 : w30.cell? ⟨gb476, 0, none⟩ = some (.bool false) := (blk_cell BK476.out 0).trans rfl
                  have hfs31 := blk_frozen BK476.out 0
                  have hs32 : w30.cell? ⟨gb476, 1, none⟩ = some (.int .i64 0) := (blk_cell BK476.out 1).trans rfl
                  have hfs32 := blk_frozen BK476.out 1
                  have hs33 : w30.cell? ⟨gb476, 2, none⟩ = some (.bool false) := (blk_cell BK476.out 2).trans rfl
                  have hfs33 := blk_frozen BK476.out 2
                  have hs34 : w30.cell? ⟨gb476, 3, none⟩ = some (.int .i64 0) := (blk_cell BK476.out 3).trans rfl
                  have hfs34 := blk_frozen BK476.out 3
                  have hs36 : w30.cell? ⟨gb476, 4, none⟩ = some (.slice none 0 0) := (blk_cell BK476.out 4).trans rfl
                  have hfs36 := blk_frozen BK476.out 4
                  refine skip_ (w1 := ?_) (by rfl) rfl ?_ ?_
                  rotate_left
                  · go_simp
                    rfl
                  refine hK.out _ _ ⟨((cell_far (p := ⟨gb476, _, none⟩) (by first | exact Kd.own_blk (Kd.N_away HO_0.out (fun _ hk => hk.2)) | (rw [add_block]; exact Kd.own_blk (Kd.N_away HO_0.out (fun _ hk => hk.2))) | (show (Addr.add _ _).block ≠ _; rw [add_block]; exact Kd.own_blk (Kd.N_away HO_0.out (fun _ hk => hk.2))) | (dsimp only; exact Kd.own_blk (Kd.N_away HO_0.out (fun _ hk => hk.2)))) _).trans (((cell_far (p := ⟨gb476, _, none⟩) (by first | exact Kd.own_blk (Kd.N_away HO_0.out (fun _ hk => hk.2)) | (rw [add_block]; exact Kd.own_blk (Kd.N_away HO_0.out (fun _ hk => hk.2))) | (show (Addr.add _ _).block ≠ _; rw [add_block]; exact Kd.own_blk (Kd.N_away HO_0.out (fun _ hk => hk.2))) | (dsimp only; exact Kd.own_blk (Kd.N_away HO_0.out (fun _ hk => hk.2)))) _).trans (((cell_far (p := ⟨gb476, _, none⟩) (by first | exact Kd.own_blk (Kd.N_away HO_0.out (fun _ hk => hk.2)) | (rw [add_block]; exact Kd.own_blk (Kd.N_away HO_0.out (fun _ hk => hk.2))) | (show (Addr.add _ _).block ≠ _; rw [add_block]; exact Kd.own_blk (Kd.N_away HO_0.out (fun _ hk => hk.2))) | (dsimp only; exact Kd.own_blk (Kd.N_away HO_0.out (fun _ hk => hk.2)))) _).trans (((cell_far (p := ⟨gb476, _, none⟩) (by first | exact Kd.own_blk (Kd.N_away HO_0.out (fun _ hk => hk.2)) | (rw [add_block]; exact Kd.own_blk (Kd.N_away HO_0.out (fun _ hk => hk.2))) | (show (Addr.add _ _).block ≠ _; rw [add_block]; exact Kd.own_blk (Kd.N_away HO_0.out (fun _ hk => hk.2))) | (dsimp only; exact Kd.own_blk (Kd.N_away HO_0.out (fun _ hk => hk.2)))) _).trans (((cell_far (p := ⟨gb476, _, none⟩) (by first | exact Kd.own_blk (Kd.N_away HO_0.out (fun _ hk => hk.2)) | (rw [add_block]; exact Kd.own_blk (Kd.N_away HO_0.out (fun _ hk => hk.2))) | (show (Addr.add _ _).block ≠ _; rw [add_block]; exact Kd.own_blk (Kd.N_away HO_0.out (fun _ hk => hk.2))) | (dsimp only; exact Kd.own_blk (Kd.N_away HO_0.out (fun _ hk => hk.2)))) _).trans (hHeld.1)))))))))), ((cell_far (p := ⟨gb476, _, none⟩) (by first | exact Kd.own_blk (Kd.N_away HO_0.out (fun _ hk => hk.2)) | (rw [add_block]; exact Kd.own_blk (Kd.N_away HO_0.out (fun _ hk => hk.2))) | (show (Addr.add _ _).block ≠ _; rw [add_block]; exact Kd.own_blk (Kd.N_away HO_0.out (fun _ hk => hk.2))) | (dsimp only; exact Kd.own_blk (Kd.N_away HO_0.out (fun _ hk => hk.2)))) _).trans (((cell_far (p := ⟨gb476, _, none⟩) (by first | exact Kd.own_blk (Kd.N_away HO_0.out (fun _ hk => hk.2)) | (rw [add_block]; exact Kd.own_blk (Kd.N_away HO_0.out (fun _ hk => hk.2))) | (show (Addr.add _ _).block ≠ _; rw [add_block]; exact Kd.own_blk (Kd.N_away HO_0.out (fun _ hk => hk.2))) | (dsimp only; exact Kd.own_blk (Kd.N_away HO_0.out (fun _ hk => hk.2)))) _).trans (((cell_far (p := ⟨gb476, _, none⟩) (by first | exact Kd.own_blk (Kd.N_away HO_0.out (fun _ hk => hk.2)) | (rw [add_block]; exact Kd.own_blk (Kd.N_away HO_0.out (fun _ hk => hk.2))) | (show (Addr.add _ _).block ≠ _; rw [add_block]; exact Kd.own_blk (Kd.N_away HO_0.out (fun _ hk => hk.2))) | (dsimp only; exact Kd.own_blk (Kd.N_away HO_0.out (fun _ hk => hk.2)))) _).trans (((cell_far (p := ⟨gb476, _, none⟩) (by first | exact Kd.own_blk (Kd.N_away HO_0.out (fun _ hk => hk.2)) | (rw [add_block]; exact Kd.own_blk (Kd.N_away HO_0.out (fun _ hk => hk.2))) | (show (Addr.add _ _).block ≠ _; rw [add_block]; exact Kd.own_blk (Kd.N_away HO_0.out (fun _ hk => hk.2))) | (dsimp only; exact Kd.own_blk (Kd.N_away HO_0.out (fun _ hk => hk.2)))) _).trans (((cell_far (p := ⟨gb476, _, none⟩) (by first | exact Kd.own_blk (Kd.N_away HO_0.out (fun _ hk => hk.2)) | (rw [add_block]; exact Kd.own_blk (Kd.N_away HO_0.out (fun _ hk => hk.2))) | (show (Addr.add _ _).block ≠ _; rw [add_block]; exact Kd.own_blk (Kd.N_away HO_0.out (fun _ hk => hk.2))) | (dsimp only; exact Kd.own_blk (Kd.N_away HO_0.out (fun _ hk => hk.2)))) _).trans (hHeld.2.1)))))))))), ((cell_far (p := ⟨gb476, _, none⟩) (by first | exact Kd.own_blk (Kd.N_away HO_0.out (fun _ hk => hk.2)) | (rw [add_block]; exact Kd.own_blk (Kd.N_away HO_0.out (fun _ hk => hk.2))) | (show (Addr.add _ _).block ≠ _; rw [add_block]; exact Kd.own_blk (Kd.N_away HO_0.out (fun _ hk => hk.2))) | (dsimp only; exact Kd.own_blk (Kd.N_away HO_0.out (fun _ hk => hk.2)))) _).trans (((cell_far (p := ⟨gb476, _, none⟩) (by first | exact Kd.own_blk (Kd.N_away HO_0.out (fun _ hk => hk.2)) | (rw [add_block]; exact Kd.own_blk (Kd.N_away HO_0.out (fun _ hk => hk.2))) | (show (Addr.add _ _).block ≠ _; rw [add_block]; exact Kd.own_blk (Kd.N_away HO_0.out (fun _ hk => hk.2))) | (dsimp only; exact Kd.own_blk (Kd.N_away HO_0.out (fun _ hk => hk.2)))) _).trans (((cell_far (p := ⟨gb476, _, none⟩) (by first | exact Kd.own_blk (Kd.N_away HO_0.out (fun _ hk => hk.2)) | (rw [add_block]; exact Kd.own_blk (Kd.N_away HO_0.out (fun _ hk => hk.2))) | (show (Addr.add _ _).block ≠ _; rw [add_block]; exact Kd.own_blk (Kd.N_away HO_0.out (fun _ hk => hk.2))) | (dsimp only; exact Kd.own_blk (Kd.N_away HO_0.out (fun _ hk => hk.2)))) _).trans (((cell_far (p := ⟨gb476, _, none⟩) (by first | exact Kd.own_blk (Kd.N_away HO_0.out (fun _ hk => hk.2)) | (rw [add_block]; exact Kd.own_blk (Kd.N_away HO_0.out (fun _ hk => hk.2))) | (show (Addr.add _ _).block ≠ _; rw [add_block]; exact Kd.own_blk (Kd.N_away HO_0.out (fun _ hk => hk.2))) | (dsimp only; exact Kd.own_blk (Kd.N_away HO_0.out (fun _ hk => hk.2)))) _).trans (((cell_far (p := ⟨gb476, _, none⟩) (by first | exact Kd.own_blk (Kd.N_away HO_0.out (fun _ hk => hk.2)) | (rw [add_block]; exact Kd.own_blk (Kd.N_away HO_0.out (fun _ hk => hk.2))) | (show (Addr.add _ _).block ≠ _; rw [add_block]; exact Kd.own_blk (Kd.N_away HO_0.out (fun _ hk => hk.2))) | (dsimp only; exact Kd.own_blk (Kd.N_away HO_0.out (fun _ hk => hk.2)))) _).trans (hHeld.2.2.1)))))))))), ((cell_far (p := ⟨gb476, _, none⟩) (by first | exact Kd.own_blk (Kd.N_away HO_0.out (fun _ hk => hk.2)) | (rw [add_block]; exact Kd.own_blk (Kd.N_away HO_0.out (fun _ hk => hk.2))) | (show (Addr.add _ _).block ≠ _; rw [add_block]; exact Kd.own_blk (Kd.N_away HO_0.out (fun _ hk => hk.2))) | (dsimp only; exact Kd.own_blk (Kd.N_away HO_0.out (fun _ hk => hk.2)))) _).trans (((cell_far (p := ⟨gb476, _, none⟩) (by first | exact Kd.own_blk (Kd.N_away HO_0.out (fun _ hk => hk.2)) | (rw [add_block]; exact Kd.own_blk (Kd.N_away HO_0.out (fun _ hk => hk.2))) | (show (Addr.add _ _).block ≠ _; rw [add_block]; exact Kd.own_blk (Kd.N_away HO_0.out (fun _ hk => hk.2))) | (dsimp only; exact Kd.own_blk (Kd.N_away HO_0.out (fun _ hk => hk.2)))) _).trans (((cell_far (p := ⟨gb476, _, none⟩) (by first | exact Kd.own_blk (Kd.N_away HO_0.out (fun _ hk => hk.2)) | (rw [add_block]; exact Kd.own_blk (Kd.N_away HO_0.out (fun _ hk => hk.2))) | (show (Addr.add _ _).block ≠ _; rw [add_block]; exact Kd.own_blk (Kd.N_away HO_0.out (fun _ hk => hk.2))) | (dsimp only; exact Kd.own_blk (Kd.N_away HO_0.out (fun _ hk => hk.2)))) _).trans (((cell_far (p := ⟨gb476, _, none⟩) (by first | exact Kd.own_blk (Kd.N_away HO_0.out (fun _ hk => hk.2)) | (rw [add_block]; exact Kd.own_blk (Kd.N_away HO_0.out (fun _ hk => hk.2))) | (show (Addr.add _ _).block ≠ _; rw [add_block]; exact Kd.own_blk (Kd.N_away HO_0.out (fun _ hk => hk.2))) | (dsimp only; exact Kd.own_blk (Kd.N_away HO_0.out (fun _ hk => hk.2)))) _).trans (((cell_far (p := ⟨gb476, _, none⟩) (by first | exact Kd.own_blk (Kd.N_away HO_0.out (fun _ hk => hk.2)) | (rw [add_block]; exact Kd.own_blk (Kd.N_away HO_0.out (fun _ hk => hk.2))) | (show (Addr.add _ _).block ≠ _; rw [add_block]; exact Kd.own_blk (Kd.N_away HO_0.out (fun _ hk => hk.2))) | (dsimp only; exact Kd.own_blk (Kd.N_away HO_0.out (fun _ hk => hk.2)))) _).trans (hHeld.2.2.2.1)))))))))), ((cell_far (p := ⟨gb476, _, none⟩) (by first | exact Kd.own_blk (Kd.N_away HO_0.out (fun _ hk => hk.2)) | (rw [add_block]; exact Kd.own_blk (Kd.N_away HO_0.out (fun _ hk => hk.2))) | (show (Addr.add _ _).block ≠ _; rw [add_block]; exact Kd.own_blk (Kd.N_away HO_0.out (fun _ hk => hk.2))) | (dsimp only; exact Kd.own_blk (Kd.N_away HO_0.out (fun _ hk => hk.2)))) _).trans (((cell_far (p := ⟨gb476, _, none⟩) (by first | exact Kd.own_blk (Kd.N_away HO_0.out (fun _ hk => hk.2)) | (rw [add_block]; exact Kd.own_blk (Kd.N_away HO_0.out (fun _ hk => hk.2))) | (show (Addr.add _ _).block ≠ _; rw [add_block]; exact Kd.own_blk (Kd.N_away HO_0.out (fun _ hk => hk.2))) | (dsimp only; exact Kd.own_blk (Kd.N_away HO_0.out (fun _ hk => hk.2)))) _).trans (((cell_far (p := ⟨gb476, _, none⟩) (by first | exact Kd.own_blk (Kd.N_away HO_0.out (fun _ hk => hk.2)) | (rw [add_block]; exact Kd.own_blk (Kd.N_away HO_0.out (fun _ hk => hk.2))) | (show (Addr.add _ _).block ≠ _; rw [add_block]; exact Kd.own_blk (Kd.N_away HO_0.out (fun _ hk => hk.2))) | (dsimp only; exact Kd.own_blk (Kd.N_away HO_0.out (fun _ hk => hk.2)))) _).trans (((cell_far (p := ⟨gb476, _, none⟩) (by first | exact Kd.own_blk (Kd.N_away HO_0.out (fun _ hk => hk.2)) | (rw [add_block]; exact Kd.own_blk (Kd.N_away HO_0.out (fun _ hk => hk.2))) | (show (Addr.add _ _).block ≠ _; rw [add_block]; exact Kd.own_blk (Kd.N_away HO_0.out (fun _ hk => hk.2))) | (dsimp only; exact Kd.own_blk (Kd.N_away HO_0.out (fun _ hk => hk.2)))) _).trans (((cell_far (p := ⟨gb476, _, none⟩) (by first | exact Kd.own_blk (Kd.N_away HO_0.out (fun _ hk => hk.2)) | (rw [add_block]; exact Kd.own_blk (Kd.N_away HO_0.out (fun _ hk => hk.2))) | (show (Addr.add _ _).block ≠ _; rw [add_block]; exact Kd.own_blk (Kd.N_away HO_0.out (fun _ hk => hk.2))) | (dsimp only; exact Kd.own_blk (Kd.N_away HO_0.out (fun _ hk => hk.2)))) _).trans (hHeld.2.2.2.2.1)))))))))), ((cell_far (p := ⟨gb476, _, none⟩) (by first | exact Kd.own_blk (Kd.N_away HO_0.out (fun _ hk => hk.2)) | (rw [add_block]; exact Kd.own_blk (Kd.N_away HO_0.out (fun _ hk => hk.2))) | (show (Addr.add _ _).block ≠ _; rw [add_block]; exact Kd.own_blk (Kd.N_away HO_0.out (fun _ hk => hk.2))) | (dsimp only; exact Kd.own_blk (Kd.N_away HO_0.out (fun _ hk => hk.2)))) _).trans (((cell_far (p := ⟨gb476, _, none⟩) (by first | exact Kd.own_blk (Kd.N_away HO_0.out (fun _ hk => hk.2)) | (rw [add_block]; exact Kd.own_blk (Kd.N_away HO_0.out (fun _ hk => hk.2))) | (show (Addr.add _ _).block ≠ _; rw [add_block]; exact Kd.own_blk (Kd.N_away HO_0.out (fun _ hk => hk.2))) | (dsimp only; exact Kd.own_blk (Kd.N_away HO_0.out (fun _ hk => hk.2)))) _).trans (((cell_far (p := ⟨gb476, _, none⟩) (by first | exact Kd.own_blk (Kd.N_away HO_0.out (fun _ hk => hk.2)) | (rw [add_block]; exact Kd.own_blk (Kd.N_away HO_0.out (fun _ hk => hk.2))) | (show (Addr.add _ _).block ≠ _; rw [add_block]; exact Kd.own_blk (Kd.N_away HO_0.out (fun _ hk => hk.2))) | (dsimp only; exact Kd.own_blk (Kd.N_away HO_0.out (fun _ hk => hk.2)))) _).trans (((cell_far (p := ⟨gb476, _, none⟩) (by first | exact Kd.own_blk (Kd.N_away HO_0.out (fun _ hk => hk.2)) | (rw [add_block]; exact Kd.own_blk (Kd.N_away HO_0.out (fun _ hk => hk.2))) | (show (Addr.add _ _).block ≠ _; rw [add_block]; exact Kd.own_blk (Kd.N_away HO_0.out (fun _ hk => hk.2))) | (dsimp only; exact Kd.own_blk (Kd.N_away HO_0.out (fun _ hk => hk.2)))) _).trans (((cell_far (p := ⟨gb476, _, none⟩) (by first | exact Kd.own_blk (Kd.N_away HO_0.out (fun _ hk => hk.2)) | (rw [add_block]; exact Kd.own_blk (Kd.N_away HO_0.out (fun _ hk => hk.2))) | (show (Addr.add _ _).block ≠ _; rw [add_block]; exact Kd.own_blk (Kd.N_away HO_0.out (fun _ hk => hk.2))) | (dsimp only; exact Kd.own_blk (Kd.N_away HO_0.out (fun _ hk => hk.2)))) _).trans (hHeld.2.2.2.2.2.1)))))))))), ((cell_far (p := ⟨gb476, _, none⟩) (by first | exact Kd.own_blk (Kd.N_away HO_0.out (fun _ hk => hk.2)) | (rw [add_block]; exact Kd.own_blk (Kd.N_away HO_0.out (fun _ hk => hk.2))) | (show (Addr.add _ _).block ≠ _; rw [add_block]; exact Kd.own_blk (Kd.N_away HO_0.out (fun _ hk => hk.2))) | (dsimp only; exact Kd.own_blk (Kd.N_away HO_0.out (fun _ hk => hk.2)))) _).trans (((cell_far (p := ⟨gb476, _, none⟩) (by first | exact Kd.own_blk (Kd.N_away HO_0.out (fun _ hk => hk.2)) | (rw [add_block]; exact Kd.own_blk (Kd.N_away HO_0.out (fun _ hk => hk.2))) | (show (Addr.add _ _).block ≠ _; rw [add_block]; exact Kd.own_blk (Kd.N_away HO_0.out (fun _ hk => hk.2))) | (dsimp only; exact Kd.own_blk (Kd.N_away HO_0.out (fun _ hk => hk.2)))) _).trans (((cell_far (p := ⟨gb476, _, none⟩) (by first | exact Kd.own_blk (Kd.N_away HO_0.out (fun _ hk => hk.2)) | (rw [add_block]; exact Kd.own_blk (Kd.N_away HO_0.out (fun _ hk => hk.2))) | (show (Addr.add _ _).block ≠ _; rw [add_block]; exact Kd.own_blk (Kd.N_away HO_0.out (fun _ hk => hk.2))) | (dsimp only; exact Kd.own_blk (Kd.N_away HO_0.out (fun _ hk => hk.2)))) _).trans (((cell_far (p := ⟨gb476, _, none⟩) (by first | exact Kd.own_blk (Kd.N_away HO_0.out (fun _ hk => hk.2)) | (rw [add_block]; exact Kd.own_blk (Kd.N_away HO_0.out (fun _ hk => hk.2))) | (show (Addr.add _ _).block ≠ _; rw [add_block]; exact Kd.own_blk (Kd.N_away HO_0.out (fun _ hk => hk.2))) | (dsimp only; exact Kd.own_blk (Kd.N_away HO_0.out (fun _ hk => hk.2)))) _).trans (((cell_far (p := ⟨gb476, _, none⟩) (by first | exact Kd.own_blk (Kd.N_away HO_0.out (fun _ hk => hk.2)) | (rw [add_block]; exact Kd.own_blk (Kd.N_away HO_0.out (fun _ hk => hk.2))) | (show (Addr.add _ _).block ≠ _; rw [add_block]; exact Kd.own_blk (Kd.N_away HO_0.out (fun _ hk => hk.2))) | (dsimp only; exact Kd.own_blk (Kd.N_away HO_0.out (fun _ hk => hk.2)))) _).trans (hHeld.2.2.2.2.2.2.1)))))))))), ((cell_far (p := ⟨gb476, _, none⟩) (by first | exact Kd.own_blk (Kd.N_away HO_0.out (fun _ hk => hk.2)) | (rw [add_block]; exact Kd.own_blk (Kd.N_away HO_0.out (fun _ hk => hk.2))) | (show (Addr.add _ _).block ≠ _; rw [add_block]; exact Kd.own_blk (Kd.N_away HO_0.out (fun _ hk => hk.2))) | (dsimp only; exact Kd.own_blk (Kd.N_away HO_0.out (fun _ hk => hk.2)))) _).trans (((cell_far (p := ⟨gb476, _, none⟩) (by first | exact Kd.own_blk (Kd.N_away HO_0.out (fun _ hk => hk.2)) | (rw [add_block]; exact Kd.own_blk (Kd.N_away HO_0.out (fun _ hk => hk.2))) | (show (Addr.add _ _).block ≠ _; rw [add_block]; exact Kd.own_blk (Kd.N_away HO_0.out (fun _ hk => hk.2))) | (dsimp only; exact Kd.own_blk (Kd.N_away HO_0.out (fun _ hk => hk.2)))) _).trans (((cell_far (p := ⟨gb476, _, none⟩) (by first | exact Kd.own_blk (Kd.N_away HO_0.out (fun _ hk => hk.2)) | (rw [add_block]; exact Kd.own_blk (Kd.N_away HO_0.out (fun _ hk => hk.2))) | (show (Addr.add _ _).block ≠ _; rw [add_block]; exact Kd.own_blk (Kd.N_away HO_0.out (fun _ hk => hk.2))) | (dsimp only; exact Kd.own_blk (Kd.N_away HO_0.out (fun _ hk => hk.2)))) _).trans (((cell_far (p := ⟨gb476, _, none⟩) (by first | exact Kd.own_blk (Kd.N_away HO_0.out (fun _ hk => hk.2)) | (rw [add_block]; exact Kd.own_blk (Kd.N_away HO_0.out (fun _ hk => hk.2))) | (show (Addr.add _ _).block ≠ _; rw [add_block]; exact Kd.own_blk (Kd.N_away HO_0.out (fun _ hk => hk.2))) | (dsimp only; exact Kd.own_blk (Kd.N_away HO_0.out (fun _ hk => hk.2)))) _).trans (((cell_far (p := ⟨gb476, _, none⟩) (by first | exact Kd.own_blk (Kd.N_away HO_0.out (fun _ hk => hk.2)) | (rw [add_block]; exact Kd.own_blk (Kd.N_away HO_0.out (fun _ hk => hk.2))) | (show (Addr.add _ _).block ≠ _; rw [add_block]; exact Kd.own_blk (Kd.N_away HO_0.out (fun _ hk => hk.2))) | (dsimp only; exact Kd.own_blk (Kd.N_away HO_0.out (fun _ hk => hk.2)))) _).trans (hHeld.2.2.2.2.2.2.2.1)))))))))), ((cell_far (p := ⟨gb476, _, none⟩) (by first | exact Kd.own_blk (Kd.N_away HO_0.out (fun _ hk => hk.2)) | (rw [add_block]; exact Kd.own_blk (Kd.N_away HO_0.out (fun _ hk => hk.2))) | (show (Addr.add _ _).block ≠ _; rw [add_block]; exact Kd.own_blk (Kd.N_away HO_0.out (fun _ hk => hk.2))) | (dsimp only; exact Kd.own_blk (Kd.N_away HO_0.out (fun _ hk => hk.2)))) _).trans (((cell_far (p := ⟨gb476, _, none⟩) (by first | exact Kd.own_blk (Kd.N_away HO_0.out (fun _ hk => hk.2)) | (rw [add_block]; exact Kd.own_blk (Kd.N_away HO_0.out (fun _ hk => hk.2))) | (show (Addr.add _ _).block ≠ _; rw [add_block]; exact Kd.own_blk (Kd.N_away HO_0.out (fun _ hk => hk.2))) | (dsimp only; exact Kd.own_blk (Kd.N_away HO_0.out (fun _ hk => hk.2)))) _).trans (((cell_far (p := ⟨gb476, _, none⟩) (by first | exact Kd.own_blk (Kd.N_away HO_0.out (fun _ hk => hk.2)) | (rw [add_block]; exact Kd.own_blk (Kd.N_away HO_0.out (fun _ hk => hk.2))) | (show (Addr.add _ _).block ≠ _; rw [add_block]; exact Kd.own_blk (Kd.N_away HO_0.out (fun _ hk => hk.2))) | (dsimp only; exact Kd.own_blk (Kd.N_away HO_0.out (fun _ hk => hk.2)))) _).trans (((cell_far (p := ⟨gb476, _, none⟩) (by first | exact Kd.own_blk (Kd.N_away HO_0.out (fun _ hk => hk.2)) | (rw [add_block]; exact Kd.own_blk (Kd.N_away HO_0.out (fun _ hk => hk.2))) | (show (Addr.add _ _).block ≠ _; rw [add_block]; exact Kd.own_blk (Kd.N_away HO_0.out (fun _ hk => hk.2))) | (dsimp only; exact Kd.own_blk (Kd.N_away HO_0.out (fun _ hk => hk.2)))) _).trans (((cell_far (p := ⟨gb476, _, none⟩) (by first | exact Kd.own_blk (Kd.N_away HO_0.out (fun _ hk => hk.2)) | (rw [add_block]; exact Kd.own_blk (Kd.N_away HO_0.out (fun _ hk => hk.2))) | (show (Addr.add _ _).block ≠ _; rw [add_block]; exact Kd.own_blk (Kd.N_away HO_0.out (fun _ hk => hk.2))) | (dsimp only; exact Kd.own_blk (Kd.N_away HO_0.out (fun _ hk => hk.2)))) _).trans (hHeld.2.2.2.2.2.2.2.2.1)))))))))), ((cell_far (p := ⟨gb476, _, none⟩) (by first | exact Kd.own_blk (Kd.N_away HO_0.out (fun _ hk => hk.2)) | (rw [add_block]; exact Kd.own_blk (Kd.N_away HO_0.out (fun _ hk => hk.2))) | (show (Addr.add _ _).block ≠ _; rw [add_block]; exact Kd.own_blk (Kd.N_away HO_0.out (fun _ hk => hk.2))) | (dsimp only; exact Kd.own_blk (Kd.N_away HO_0.out (fun _ hk => hk.2)))) _).trans (((cell_far (p := ⟨gb476, _, none⟩) (by first | exact Kd.own_blk (Kd.N_away HO_0.out (fun _ hk => hk.2)) | (rw [add_block]; exact Kd.own_blk (Kd.N_away HO_0.out (fun _ hk => hk.2))) | (show (Addr.add _ _).block ≠ _; rw [add_block]; exact Kd.own_blk (Kd.N_away HO_0.out (fun _ hk => hk.2))) | (dsimp only; exact Kd.own_blk (Kd.N_away HO_0.out (fun _ hk => hk.2)))) _).trans (((cell_far (p := ⟨gb476, _, none⟩) (by first | exact Kd.own_blk (Kd.N_away HO_0.out (fun _ hk => hk.2)) | (rw [add_block]; exact Kd.own_blk (Kd.N_away HO_0.out (fun _ hk => hk.2))) | (show (Addr.add _ _).block ≠ _; rw [add_block]; exact Kd.own_blk (Kd.N_away HO_0.out (fun _ hk => hk.2))) | (dsimp only; exact Kd.own_blk (Kd.N_away HO_0.out (fun _ hk => hk.2)))) _).trans (((cell_far (p := ⟨gb476, _, none⟩) (by first | exact Kd.own_blk (Kd.N_away HO_0.out (fun _ hk => hk.2)) | (rw [add_block]; exact Kd.own_blk (Kd.N_away HO_0.out (fun _ hk => hk.2))) | (show (Addr.add _ _).block ≠ _; rw [add_block]; exact Kd.own_blk (Kd.N_away HO_0.out (fun _ hk => hk.2))) | (dsimp only; exact Kd.own_blk (Kd.N_away HO_0.out (fun _ hk => hk.2)))) _).trans (((cell_far (p := ⟨gb476, _, none⟩) (by first | exact Kd.own_blk (Kd.N_away HO_0.out (fun _ hk => hk.2)) | (rw [add_block]; exact Kd.own_blk (Kd.N_away HO_0.out (fun _ hk => hk.2))) | (show (Addr.add _ _).block ≠ _; rw [add_block]; exact Kd.own_blk (Kd.N_away HO_0.out (fun _ hk => hk.2))) | (dsimp only; exact Kd.own_blk (Kd.N_away HO_0.out (fun _ hk => hk.2)))) _).trans (hHeld.2.2.2.2.2.2.2.2.2.1)))))))))), ((cell_far (p := ⟨gb476, _, none⟩) (by first | exact Kd.own_blk (Kd.N_away HO_0.out (fun _ hk => hk.2)) | (rw [add_block]; exact Kd.own_blk (Kd.N_away HO_0.out (fun _ hk => hk.2))) | (show (Addr.add _ _).block ≠ _; rw [add_block]; exact Kd.own_blk (Kd.N_away HO_0.out (fun _ hk => hk.2))) | (dsimp only; exact Kd.own_blk (Kd.N_away HO_0.out (fun _ hk => hk.2)))) _).trans (((cell_far (p := ⟨gb476, _, none⟩) (by first | exact Kd.own_blk (Kd.N_away HO_0.out (fun _ hk => hk.2)) | (rw [add_block]; exact Kd.own_blk (Kd.N_away HO_0.out (fun _ hk => hk.2))) | (show (Addr.add _ _).block ≠ _; rw [add_block]; exact Kd.own_blk (Kd.N_away HO_0.out (fun _ hk => hk.2))) | (dsimp only; exact Kd.own_blk (Kd.N_away HO_0.out (fun _ hk => hk.2)))) _).trans (((cell_far (p := ⟨gb476, _, none⟩) (by first | exact Kd.own_blk (Kd.N_away HO_0.out (fun _ hk => hk.2)) | (rw [add_block]; exact Kd.own_blk (Kd.N_away HO_0.out (fun _ hk => hk.2))) | (show (Addr.add _ _).block ≠ _; rw [add_block]; exact Kd.own_blk (Kd.N_away HO_0.out (fun _ hk => hk.2))) | (dsimp only; exact Kd.own_blk (Kd.N_away HO_0.out (fun _ hk => hk.2)))) _).trans (((cell_far (p := ⟨gb476, _, none⟩) (by first | exact Kd.own_blk (Kd.N_away HO_0.out (fun _ hk => hk.2)) | (rw [add_block]; exact Kd.own_blk (Kd.N_away HO_0.out (fun _ hk => hk.2))) | (show (Addr.add _ _).block ≠ _; rw [add_block]; exact Kd.own_blk (Kd.N_away HO_0.out (fun _ hk => hk.2))) | (dsimp only; exact Kd.own_blk (Kd.N_away HO_0.out (fun _ hk => hk.2)))) _).trans (((cell_far (p := ⟨gb476, _, none⟩) (by first | exact Kd.own_blk (Kd.N_away HO_0.out (fun _ hk => hk.2)) | (rw [add_block]; exact Kd.own_blk (Kd.N_away HO_0.out (fun _ hk => hk.2))) | (show (Addr.add _ _).block ≠ _; rw [add_block]; exact Kd.own_blk (Kd.N_away HO_0.out (fun _ hk => hk.2))) | (dsimp only; exact Kd.own_blk (Kd.N_away HO_0.out (fun _ hk => hk.2)))) _).trans (hHeld.2.2.2.2.2.2.2.2.2.2.1)))))))))), ((cell_far (p := ⟨gb476, _, none⟩) (by first | exact Kd.own_blk (Kd.N_away HO_0.out (fun _ hk => hk.2)) | (rw [add_block]; exact Kd.own_blk (Kd.N_away HO_0.out (fun _ hk => hk.2))) | (show (Addr.add _ _).block ≠ _; rw [add_block]; exact Kd.own_blk (Kd.N_away HO_0.out (fun _ hk => hk.2))) | (dsimp only; exact Kd.own_blk (Kd.N_away HO_0.out (fun _ hk => hk.2)))) _).trans (((cell_far (p := ⟨gb476, _, none⟩) (by first | exact Kd.own_blk (Kd.N_away HO_0.out (fun _ hk => hk.2)) | (rw [add_block]; exact Kd.own_blk (Kd.N_away HO_0.out (fun _ hk => hk.2))) | (show (Addr.add _ _).block ≠ _; rw [add_block]; exact Kd.own_blk (Kd.N_away HO_0.out (fun _ hk => hk.2))) | (dsimp only; exact Kd.own_blk (Kd.N_away HO_0.out (fun _ hk => hk.2)))) _).trans (((cell_far (p := ⟨gb476, _, none⟩) (by first | exact Kd.own_blk (Kd.N_away HO_0.out (fun _ hk => hk.2)) | (rw [add_block]; exact Kd.own_blk (Kd.N_away HO_0.out (fun _ hk => hk.2))) | (show (Addr.add _ _).block ≠ _; rw [add_block]; exact Kd.own_blk (Kd.N_away HO_0.out (fun _ hk => hk.2))) | (dsimp only; exact Kd.own_blk (Kd.N_away HO_0.out (fun _ hk => hk.2)))) _).trans (((cell_far (p := ⟨gb476, _, none⟩) (by first | exact Kd.own_blk (Kd.N_away HO_0.out (fun _ hk => hk.2)) | (rw [add_block]; exact Kd.own_blk (Kd.N_away HO_0.out (fun _ hk => hk.2))) | (show (Addr.add _ _).block ≠ _; rw [add_block]; exact Kd.own_blk (Kd.N_away HO_0.out (fun _ hk => hk.2))) | (dsimp only; exact Kd.own_blk (Kd.N_away HO_0.out (fun _ hk => hk.2)))) _).trans (((cell_far (p := ⟨gb476, _, none⟩) (by first | exact Kd.own_blk (Kd.N_away HO_0.out (fun _ hk => hk.2)) | (rw [add_block]; exact Kd.own_blk (Kd.N_away HO_0.out (fun _ hk => hk.2))) | (show (Addr.add _ _).block ≠ _; rw [add_block]; exact Kd.own_blk (Kd.N_away HO_0.out (fun _ hk => hk.2))) | (dsimp only; exact Kd.own_blk (Kd.N_away HO_0.out (fun _ hk => hk.2)))) _).trans (hHeld.2.2.2.2.2.2.2.2.2.2.2.1)))))))))), ((cell_far (p := ⟨gb476, _, none⟩) (by first | exact Kd.own_blk (Kd.N_away HO_0.out (fun _ hk => hk.2)) | (rw [add_block]; exact Kd.own_blk (Kd.N_away HO_0.out (fun _ hk => hk.2))) | (show (Addr.add _ _).block ≠ _; rw [add_block]; exact Kd.own_blk (Kd.N_away HO_0.out (fun _ hk => hk.2))) | (dsimp only; exact Kd.own_blk (Kd.N_away HO_0.out (fun _ hk => hk.2)))) _).trans (((cell_far (p := ⟨gb476, _, none⟩) (by first | exact Kd.own_blk (Kd.N_away HO_0.out (fun _ hk => hk.2)) | (rw [add_block]; exact Kd.own_blk (Kd.N_away HO_0.out (fun _ hk => hk.2))) | (show (Addr.add _ _).block ≠ _; rw [add_block]; exact Kd.own_blk (Kd.N_away HO_0.out (fun _ hk => hk.2))) | (dsimp only; exact Kd.own_blk (Kd.N_away HO_0.out (fun _ hk => hk.2)))) _).trans (((cell_far (p := ⟨gb476, _, none⟩) (by first | exact Kd.own_blk (Kd.N_away HO_0.out (fun _ hk => hk.2)) | (rw [add_block]; exact Kd.own_blk (Kd.N_away HO_0.out (fun _ hk => hk.2))) | (show (Addr.add _ _).block ≠ _; rw [add_block]; exact Kd.own_blk (Kd.N_away HO_0.out (fun _ hk => hk.2))) | (dsimp only; exact Kd.own_blk (Kd.N_away HO_0.out (fun _ hk => hk.2)))) _).trans (((cell_far (p := ⟨gb476, _, none⟩) (by first | exact Kd.own_blk (Kd.N_away HO_0.out (fun _ hk => hk.2)) | (rw [add_block]; exact Kd.own_blk (Kd.N_away HO_0.out (fun _ hk => hk.2))) | (show (Addr.add _ _).block ≠ _; rw [add_block]; exact Kd.own_blk (Kd.N_away HO_0.out (fun _ hk => hk.2))) | (dsimp only; exact Kd.own_blk (Kd.N_away HO_0.out (fun _ hk => hk.2)))) _).trans (((cell_far (p := ⟨gb476, _, none⟩) (by first | exact Kd.own_blk (Kd.N_away HO_0.out (fun _ hk => hk.2)) | (rw [add_block]; exact Kd.own_blk (Kd.N_away HO_0.out (fun _ hk => hk.2))) | (show (Addr.add _ _).block ≠ _; rw [add_block]; exact Kd.own_blk (Kd.N_away HO_0.out (fun _ hk => hk.2))) | (dsimp only; exact Kd.own_blk (Kd.N_away HO_0.out (fun _ hk => hk.2)))) _).trans (hHeld.2.2.2.2.2.2.2.2.2.2.2.2.1)))))))))), ((cell_far (p := ⟨gb476, _, none⟩) (by first | exact Kd.own_blk (Kd.N_away HO_0.out (fun _ hk => hk.2)) | (rw [add_block]; exact Kd.own_blk (Kd.N_away HO_0.out (fun _ hk => hk.2))) | (show (Addr.add _ _).block ≠ _; rw [add_block]; exact Kd.own_blk (Kd.N_away HO_0.out (fun _ hk => hk.2))) | (dsimp only; exact Kd.own_blk (Kd.N_away HO_0.out (fun _ hk => hk.2)))) _).trans (((cell_far (p := ⟨gb476, _, none⟩) (by first | exact Kd.own_blk (Kd.N_away HO_0.out (fun _ hk => hk.2)) | (rw [add_block]; exact Kd.own_blk (Kd.N_away HO_0.out (fun _ hk => hk.2))) | (show (Addr.add _ _).block ≠ _; rw [add_block]; exact Kd.own_blk (Kd.N_away HO_0.out (fun _ hk => hk.2))) | (dsimp only; exact Kd.own_blk (Kd.N_away HO_0.out (fun _ hk => hk.2)))) _).trans (((cell_far (p := ⟨gb476, _, none⟩) (by first | exact Kd.own_blk (Kd.N_away HO_0.out (fun _ hk => hk.2)) | (rw [add_block]; exact Kd.own_blk (Kd.N_away HO_0.out (fun _ hk => hk.2))) | (show (Addr.add _ _).block ≠ _; rw [add_block]; exact Kd.own_blk (Kd.N_away HO_0.out (fun _ hk => hk.2))) | (dsimp only; exact Kd.own_blk (Kd.N_away HO_0.out (fun _ hk => hk.2)))) _).trans (((cell_far (p := ⟨gb476, _, none⟩) (by first | exact Kd.own_blk (Kd.N_away HO_0.out (fun _ hk => hk.2)) | (rw [add_block]; exact Kd.own_blk (Kd.N_away HO_0.out (fun _ hk => hk.2))) | (show (Addr.add _ _).block ≠ _; rw [add_block]; exact Kd.own_blk (Kd.N_away HO_0.out (fun _ hk => hk.2))) | (dsimp only; exact Kd.own_blk (Kd.N_away HO_0.out (fun _ hk => hk.2)))) _).trans (((cell_far (p := ⟨gb476, _, none⟩) (by first | exact Kd.own_blk (Kd.N_away HO_0.out (fun _ hk => hk.2)) | (rw [add_block]; exact Kd.own_blk (Kd.N_away HO_0.out (fun _ hk => hk.2))) | (show (Addr.add _ _).block ≠ _; rw [add_block]; exact Kd.own_blk (Kd.N_away HO_0.out (fun _ hk => hk.2))) | (dsimp only; exact Kd.own_blk (Kd.N_away HO_0.out (fun _ hk => hk.2)))) _).trans (hHeld.2.2.2.2.2.2.2.2.2.2.2.2.2.1)))))))))), ((cell_far (p := ⟨gb476, _, none⟩) (by first | exact Kd.own_blk (Kd.N_away HO_0.out (fun _ hk => hk.2)) | (rw [add_block]; exact Kd.own_blk (Kd.N_away HO_0.out (fun _ hk => hk.2))) | (show (Addr.add _ _).block ≠ _; rw [add_block]; exact Kd.own_blk (Kd.N_away HO_0.out (fun _ hk => hk.2))) | (dsimp only; exact Kd.own_blk (Kd.N_away HO_0.out (fun _ hk => hk.2)))) _).trans (((cell_far (p := ⟨gb476, _, none⟩) (by first | exact Kd.own_blk (Kd.N_away HO_0.out (fun _ hk => hk.2)) | (rw [add_block]; exact Kd.own_blk (Kd.N_away HO_0.out (fun _ hk => hk.2))) | (show (Addr.add _ _).block ≠ _; rw [add_block]; exact Kd.own_blk (Kd.N_away HO_0.out (fun _ hk => hk.2))) | (dsimp only; exact Kd.own_blk (Kd.N_away HO_0.out (fun _ hk => hk.2)))) _).trans (((cell_far (p := ⟨gb476, _, none⟩) (by first | exact Kd.own_blk (Kd.N_away HO_0.out (fun _ hk => hk.2)) | (rw [add_block]; exact Kd.own_blk (Kd.N_away HO_0.out (fun _ hk => hk.2))) | (show (Addr.add _ _).block ≠ _; rw [add_block]; exact Kd.own_blk (Kd.N_away HO_0.out (fun _ hk => hk.2))) | (dsimp only; exact Kd.own_blk (Kd.N_away HO_0.out (fun _ hk => hk.2)))) _).trans (((cell_far (p := ⟨gb476, _, none⟩) (by first | exact Kd.own_blk (Kd.N_away HO_0.out (fun _ hk => hk.2)) | (rw [add_block]; exact Kd.own_blk (Kd.N_away HO_0.out (fun _ hk => hk.2))) | (show (Addr.add _ _).block ≠ _; rw [add_block]; exact Kd.own_blk (Kd.N_away HO_0.out (fun _ hk => hk.2))) | (dsimp only; exact Kd.own_blk (Kd.N_away HO_0.out (fun _ hk => hk.2)))) _).trans (((cell_far (p := ⟨gb476, _, none⟩) (by first | exact Kd.own_blk (Kd.N_away HO_0.out (fun _ hk => hk.2)) | (rw [add_block]; exact Kd.own_blk (Kd.N_away HO_0.out (fun _ hk => hk.2))) | (show (Addr.add _ _).block ≠ _; rw [add_block]; exact Kd.own_blk (Kd.N_away HO_0.out (fun _ hk => hk.2))) | (dsimp only; exact Kd.own_blk (Kd.N_away HO_0.out (fun _ hk => hk.2)))) _).trans (hHeld.2.2.2.2.2.2.2.2.2.2.2.2.2.2))))))))))⟩ (fun hHeld => ?_)
                  clear hK K
                  refine done_ (done_of HT_.out (by kernel_rfl)) ?_
                  have m0_ := Aside0.mk (Kd.N_mono (Kd.N_far (p := ⟨gb476, 4, none⟩) (Kd.N_far (p := ⟨gb476, 3, none⟩) (Kd.N_far (p := ⟨gb476, 2, none⟩) (Kd.N_far (p := ⟨gb476, 1, none⟩) (Kd.N_far (p := ⟨gb476, 0, none⟩) (Kd.N_mono HO_0.out (fun k_ hk => (⟨hk, hk.2⟩ : _ ∧ k_ ≠ gb476))) (fun _ hk => hk.2) (.bool t469)) (fun _ hk => hk.2) (.int .i64 t470)) (fun _ hk => hk.2) (.bool t471)) (fun _ hk => hk.2) (.int .i64 t472)) (fun _ hk => hk.2) (.slice Ao35 t473.length co35)) (fun _ h_ => h_.1))
                  have m1_ := Aside0.mk (Kd.R_mono (Kd.R_far (p := ⟨gb476, 4, none⟩) (Kd.R_far (p := ⟨gb476, 3, none⟩) (Kd.R_far (p := ⟨gb476, 2, none⟩) (Kd.R_far (p := ⟨gb476, 1, none⟩) (Kd.R_far (p := ⟨gb476, 0, none⟩) (Kd.R_types HO475.out BK476.out (by decide)) (fun _ hk => hk.2) (.bool t469)) (fun _ hk => hk.2) (.int .i64 t470)) (fun _ hk => hk.2) (.bool t471)) (fun _ hk => hk.2) (.int .i64 t472)) (fun _ hk => hk.2) (.slice Ao35 t473.length co35)) (fun _ h_ => h_.1))
                  have m2_ := Aside0.mk (Kd.V_mono (Kd.V_far (p := ⟨gb476, 4, none⟩) (Kd.V_far (p := ⟨gb476, 3, none⟩) (Kd.V_far (p := ⟨gb476, 2, none⟩) (Kd.V_far (p := ⟨gb476, 1, none⟩) (Kd.V_far (p := ⟨gb476, 0, none⟩) (Kd.V_mono HL466_4.out (fun k_ hk => (⟨hk, hk.2.2⟩ : _ ∧ k_ ≠ gb476))) (fun _ hk => hk.2) (.bool t469)) (fun _ hk => hk.2) (.int .i64 t470)) (fun _ hk => hk.2) (.bool t471)) (fun _ hk => hk.2) (.int .i64 t472)) (fun _ hk => hk.2) (.slice Ao35 t473.length co35)) (fun _ h_ => h_.1))
                  have m3_ := Aside0.mk (Kd.V_mono (Kd.V_far (p := ⟨gb476, 4, none⟩) (Kd.V_far (p := ⟨gb476, 3, none⟩) (Kd.V_far (p := ⟨gb476, 2, none⟩) (Kd.V_far (p := ⟨gb476, 1, none⟩) (Kd.V_far (p := ⟨gb476, 0, none⟩) (Kd.V_mono HL467_4.out (fun k_ hk => (⟨hk, hk.2.2⟩ : _ ∧ k_ ≠ gb476))) (fun _ hk => hk.2) (.bool t469)) (fun _ hk => hk.2) (.int .i64 t470)) (fun _ hk => hk.2) (.bool t471)) (fun _ hk => hk.2) (.int .i64 t472)) (fun _ hk => hk.2) (.slice Ao35 t473.length co35)) (fun _ h_ => h_.1))
                  have m4_ := Aside0.mk (Kd.V_mono (Kd.V_far (p := ⟨gb476, 4, none⟩) (Kd.V_far (p := ⟨gb476, 3, none⟩) (Kd.V_far (p := ⟨gb476, 2, none⟩) (Kd.V_far (p := ⟨gb476, 1, none⟩) (Kd.V_far (p := ⟨gb476, 0, none⟩) (Kd.V_mono HL468_4.out (fun k_ hk => (⟨hk, hk.2.2⟩ : _ ∧ k_ ≠ gb476))) (fun _ hk => hk.2) (.bool t469)) (fun _ hk => hk.2) (.int .i64 t470)) (fun _ hk => hk.2) (.bool t471)) (fun _ hk => hk.2) (.int .i64 t472)) (fun _ hk => hk.2) (.slice Ao35 t473.length co35)) (fun _ h_ => h_.1))
                  have m5_ : Aside0 (((World.setCell (World.setCell (World.setCell (World.setCell (World.setCell w30 ⟨gb476, 0, none⟩ (.bool t469)) ⟨gb476, 1, none⟩ (.int .i64 t470)) ⟨gb476, 2, none⟩ (.bool t471)) ⟨gb476, 3, none⟩ (.int .i64 t472)) ⟨gb476, 4, none⟩ (.slice Ao35 t473.length co35))).heap[gb476]? = some (.cells #[.bool t469, .int .i64 t470, .bool t471, .int .i64 t472, .slice Ao35 t473.length co35] 35 (0, 0))) := ⟨(by (with_reducible repeat (first | refine blk_drewN ?_ _ | refine blk_drew ?_ | refine blk_alloc ?_ _)); refine blk_put (cs := #[.bool t469, .int .i64 t470, .bool t471, .int .i64 t472, .slice none 0 0]) ?_ 4 _ rfl; (with_reducible repeat (first | refine blk_drewN ?_ _ | refine blk_drew ?_ | refine blk_alloc ?_ _)); refine blk_put (cs := #[.bool t469, .int .i64 t470, .bool t471, .int .i64 0, .slice none 0 0]) ?_ 3 _ rfl; (with_reducible repeat (first | refine blk_drewN ?_ _ | refine blk_drew ?_ | refine blk_alloc ?_ _)); refine blk_put (cs := #[.bool t469, .int .i64 t470, .bool false, .int .i64 0, .slice none 0 0]) ?_ 2 _ rfl; (with_reducible repeat (first | refine blk_drewN ?_ _ | refine blk_drew ?_ | refine blk_alloc ?_ _)); refine blk_put (cs := #[.bool t469, .int .i64 0, .bool false, .int .i64 0, .slice none 0 0]) ?_ 1 _ rfl; (with_reducible repeat (first | refine blk_drewN ?_ _ | refine blk_drew ?_ | refine blk_alloc ?_ _)); refine blk_put (cs := #[.bool false, .int .i64 0, .bool false, .int .i64 0, .slice none 0 0]) ?_ 0 _ rfl; (with_reducible repeat (first | refine blk_drewN ?_ _ | refine blk_drew ?_ | refine blk_alloc ?_ _)); exact BK476.out)⟩
                  have m6_ : Aside0 (Below w.heap.size w (World.setCell (World.setCell (World.setCell (World.setCell (World.setCell w30 ⟨gb476, 0, none⟩ (.bool t469)) ⟨gb476, 1, none⟩ (.int .i64 t470)) ⟨gb476, 2, none⟩ (.bool t471)) ⟨gb476, 3, none⟩ (.int .i64 t472)) ⟨gb476, 4, none⟩ (.slice Ao35 t473.length co35))) := ⟨by repeat (first | (with_reducible first | exact HB.out | apply below_alloc | apply pw_below_drewN | apply below_drew1 | refine below_set ?_ GE476.out) | exact HB.out)⟩
                  clear HO_0
                  clear HO475
                  clear HL466_4
                  clear HL467_4
                  clear HL468_4
                  clear BK476
                  clear HB
                  have HO_0 := m0_
                  have HO475 := m1_
                  have HL466_4 := m2_
                  have HL467_4 := m3_
                  have HL468_4 := m4_
                  have BK476 := m5_
                  have HB := m6_
                  clear m0_ m1_ m2_ m3_ m4_ m5_ m6_
                  generalize (World.setCell (World.setCell (World.setCell (World.setCell (World.setCell w30 ⟨gb476, 0, none⟩ (.bool t469)) ⟨gb476, 1, none⟩ (.int .i64 t470)) ⟨gb476, 2, none⟩ (.bool t471)) ⟨gb476, 3, none⟩ (.int .i64 t472)) ⟨gb476, 4, none⟩ (.slice Ao35 t473.length co35)) = wz_ at *
                  go_upto_region 12 with (first | ((with_reducible refine gate_dst (N := 50) rfl ?_); (try (refine gate_guard (by rfl) ?_; dsimp only)); refine Kd.N_lit k35 _ 35 ?hg (N' := 50) ?hd (xs := ([] : List (S35))) (inner := []) (ok := (fun k_ => some k_ ≠ (.slice (some ad466) t462.length co16 : Value).ownBlock ∧ some k_ ≠ (.slice Ao35 t473.length co35 : Value).ownBlock ∧ k_ ≠ gb476)) (okp := (fun k_ => some k_ ≠ (.slice (some ad466) t462.length co16 : Value).ownBlock ∧ some k_ ≠ (.slice Ao35 t473.length co35 : Value).ownBlock ∧ k_ ≠ gb476)) ?hr ?hp (fun _ hk => hk) ((show ∀ k_, wz_.heap.size ≤ k_ → (fun k_ => some k_ ≠ (.slice (some ad466) t462.length co16 : Value).ownBlock ∧ some k_ ≠ (.slice Ao35 t473.length co35 : Value).ownBlock ∧ k_ ≠ gb476) k_ from fun k_ hk => ⟨Kd.fresh' (Kd.N_lt (by (with_reducible repeat (first | apply Kd.N_alloc | apply Kd.N_drewN | apply Kd.N_drew)); exact HO_0.out)) k_ hk, Kd.fresh' (Kd.R_lt (by (with_reducible repeat (first | apply Kd.R_alloc | apply Kd.R_drewN | apply Kd.R_drew)); exact HO475.out)) k_ hk, Kd.freshB (g := gb476) (o := .cells #[.bool t469, .int .i64 t470, .bool t471, .int .i64 t472, .slice Ao35 t473.length co35] 35 (0, 0)) (by (with_reducible repeat (first | refine blk_drewN ?_ _ | refine blk_drew ?_ | refine blk_alloc ?_ _)); exact BK476.out) k_ hk⟩) _ (Nat.le_refl _)) (Below.refl _ _) (Nat.le_refl _) (by simp) ?_; (case hd => rfl); (case hg => rfl); (case hr => first | (go_simp; done) | (go_simp; rfl)); (case hp => exact (Reps.none _ _)); intro v478 w37 ho38 hb hg_ hnew_; clear hg_ hnew_; (first | rw [← Ny477.out] at ho38 | (simp only [Int.reduceToNat] at ho38; rw [← Ny477.out] at ho38)); have n0_ := Aside0.mk (Kd.N_elder' (by (with_reducible repeat (first | apply Kd.N_alloc | apply Kd.N_drewN | apply Kd.N_drew)); exact HO_0.out) (Kd.N_base ho38) hb); have n1_ := Aside0.mk (Kd.V_elder' (by (with_reducible repeat (first | apply Kd.V_alloc | apply Kd.V_drewN | apply Kd.V_drew)); exact HL466_4.out) (Kd.N_base ho38) hb); have n2_ := Aside0.mk (Kd.V_elder' (by (with_reducible repeat (first | apply Kd.V_alloc | apply Kd.V_drewN | apply Kd.V_drew)); exact HL467_4.out) (Kd.N_base ho38) hb); have n3_ := Aside0.mk (Kd.V_elder' (by (with_reducible repeat (first | apply Kd.V_alloc | apply Kd.V_drewN | apply Kd.V_drew)); exact HL468_4.out) (Kd.N_base ho38) hb); have n4_ := Aside0.mk (Kd.R_below (by (with_reducible repeat (first | apply Kd.R_alloc | apply Kd.R_drewN | apply Kd.R_drew)); exact HO475.out) hb); have n5_ := Aside0.mk (Kd.N_lower ho38 (below_size (by repeat (first | (with_reducible first | exact HB.out | apply below_alloc | apply pw_below_drewN | apply below_drew1 | refine below_set ?_ GE476.out) | exact HB.out)))); have n6_ := Aside0.mk (blk_below (g := gb476) (o := .cells #[.bool t469, .int .i64 t470, .bool t471, .int .i64 t472, .slice Ao35 t473.length co35] 35 (0, 0)) (by (with_reducible repeat (first | refine blk_drewN ?_ _ | refine blk_drew ?_ | refine blk_alloc ?_ _)); exact BK476.out) hb); have n7_ := Aside0.mk (below_step (by repeat (first | (with_reducible first | exact HB.out | apply below_alloc | apply pw_below_drewN | apply below_drew1 | refine below_set ?_ GE476.out) | exact HB.out)) hb); clear HO_0; clear HL466_4; clear HL467_4; clear HL468_4; clear HO475; clear BK476; clear HB; have HO_0 := n0_; have HL466_4 := n1_; have HL467_4 := n2_; have HL468_4 := n3_; have HO475 := n4_; have HO479 := n5_; have BK476 := n6_; have HB := n7_; clear n0_ n1_ n2_ n3_ n4_ n5_ n6_ n7_; clear hb ho38) | ((with_reducible refine gate_builtin (b := .append) (xs := #[.tmp 50, .tmp 51]) rfl ?_); (try (refine gate_guard (by rfl) ?_; dsimp only)); at_builtin; refine Kd.N_append_rows k35 (w0 := w) w.heap.size rfl (.tmp 50) (.tmp 51) 22 35 (.agg #[(.bool false), (.int .i64 0), (.bool false), (.int .i64 0), (.slice none 0 0)]) 56 rfl Try.underlying22 info35 rfl (by decide) (by omega) v478 y477 t462 _ _ _ (fun k_ => some k_ ≠ (.slice Ao35 t473.length co35 : Value).ownBlock ∧ k_ ≠ gb476) (fun k_ => ((fun k_ => some k_ ≠ (.slice Ao35 t473.length co35 : Value).ownBlock ∧ k_ ≠ gb476)) k_ ∧ some k_ ≠ (v478 : Value).ownBlock) rfl rfl ?aO ?aR (fun _ hk => hk) ?aF ?aB ?aS ?aL ?_; (case aR => exact (by skip; exact Kd.N_F (Kd.N_mono (ok' := (fun k_ => ((fun k_ => some k_ ≠ (.slice Ao35 t473.length co35 : Value).ownBlock ∧ k_ ≠ gb476)) k_ ∧ some k_ ≠ (v478 : Value).ownBlock)) (HO_0.out) (fun k_ hk => ⟨⟨hk.1.1, hk.1.2⟩, hk.2⟩)))); (case aB => exact (by repeat (first | (with_reducible first | exact HB.out | apply below_alloc | apply pw_below_drewN | apply below_drew1 | refine below_set ?_ GE476.out) | exact HB.out))); (case aF => exact (fun k_ hk => ⟨Kd.fresh' (Kd.R_lt (by (with_reducible repeat (first | apply Kd.R_alloc | apply Kd.R_drewN | apply Kd.R_drew)); exact HO475.out)) k_ hk, Kd.freshB (g := gb476) (o := .cells #[.bool t469, .int .i64 t470, .bool t471, .int .i64 t472, .slice Ao35 t473.length co35] 35 (0, 0)) (by (with_reducible repeat (first | refine blk_drewN ?_ _ | refine blk_drew ?_ | refine blk_alloc ?_ _)); exact BK476.out) k_ hk⟩)); (case aO => exact (by (with_reducible repeat (first | apply Kd.N_alloc | apply Kd.N_drewN | apply Kd.N_drew)); exact Kd.N_mono HO479.out (fun _ hk => ⟨hk.2.1, hk.2.2⟩))); (case aS => exact (below_size (by repeat (first | (with_reducible first | exact HB.out | apply below_alloc | apply pw_below_drewN | apply below_drew1 | refine below_set ?_ GE476.out) | exact HB.out)))); (case aL => have := LMc23.out; omega); intro v481 w39 ho hb hg hat; rw [← Ny480.out] at ho; have n0_ := Aside0.mk (Kd.N_afterv (ok := (fun k_ => some k_ ≠ (.slice Ao35 t473.length co35 : Value).ownBlock ∧ k_ ≠ gb476)) (by (with_reducible repeat (first | apply Kd.N_alloc | apply Kd.N_drewN | apply Kd.N_drew)); exact HO_0.out) hg hat); have n1_ := Aside0.mk (Kd.V_afterv (ok := (fun k_ => some k_ ≠ (.slice (some ad466) t462.length co16 : Value).ownBlock ∧ some k_ ≠ (.slice Ao35 t473.length co35 : Value).ownBlock ∧ k_ ≠ gb476)) (by (with_reducible repeat (first | apply Kd.V_alloc | apply Kd.V_drewN | apply Kd.V_drew)); exact Kd.V_mono HL466_4.out (fun _ hk => ⟨⟨hk.1.2.1, ⟨hk.1.1, hk.1.2.2⟩⟩, hk.2⟩)) hg hat); have n2_ := Aside0.mk (Kd.V_afterv (ok := (fun k_ => some k_ ≠ (.slice (some ad466) t462.length co16 : Value).ownBlock ∧ some k_ ≠ (.slice Ao35 t473.length co35 : Value).ownBlock ∧ k_ ≠ gb476)) (by (with_reducible repeat (first | apply Kd.V_alloc | apply Kd.V_drewN | apply Kd.V_drew)); exact Kd.V_mono HL467_4.out (fun _ hk => ⟨⟨hk.1.2.1, ⟨hk.1.1, hk.1.2.2⟩⟩, hk.2⟩)) hg hat); have n3_ := Aside0.mk (Kd.V_afterv (ok := (fun k_ => some k_ ≠ (.slice (some ad466) t462.length co16 : Value).ownBlock ∧ some k_ ≠ (.slice Ao35 t473.length co35 : Value).ownBlock ∧ k_ ≠ gb476)) (by (with_reducible repeat (first | apply Kd.V_alloc | apply Kd.V_drewN | apply Kd.V_drew)); exact Kd.V_mono HL468_4.out (fun _ hk => ⟨⟨hk.1.2.1, ⟨hk.1.1, hk.1.2.2⟩⟩, hk.2⟩)) hg hat); have n4_ := Aside0.mk (Kd.R_over' (by (with_reducible repeat (first | apply Kd.R_alloc | apply Kd.R_drewN | apply Kd.R_drew)); exact HO475.out) (Kd.N_typed (by (with_reducible repeat (first | apply Kd.N_alloc | apply Kd.N_drewN | apply Kd.N_drew)); exact HO479.out)) (by decide) hg); have n5_ := Aside0.mk (blk_grown (g := gb476) (o := .cells #[.bool t469, .int .i64 t470, .bool t471, .int .i64 t472, .slice Ao35 t473.length co35] 35 (0, 0)) (by (with_reducible repeat (first | refine blk_drewN ?_ _ | refine blk_drew ?_ | refine blk_alloc ?_ _)); exact BK476.out) hg (Kd.N_away HO479.out (fun _ hk => hk.2.2))); have n6_ := Aside0.mk (hb); have n7_ := Aside0.mk (ho); clear HO_0; clear HL466_4; clear HL467_4; clear HL468_4; clear HO475; clear BK476; clear HB; clear HO479; have HO_0 := n0_; have HL466_4 := n1_; have HL467_4 := n2_; have HL468_4 := n3_; have HO475 := n4_; have BK476 := n5_; have HB := n6_; have HO482 := n7_; clear n0_ n1_ n2_ n3_ n4_ n5_ n6_ n7_; clear ho hb hg hat; have hcz40_0 : w39.cell? ⟨gb476, 0, none⟩ = some (.bool t469) := (blk_cell BK476.out 0).trans rfl; have hcz40_1 : w39.cell? ⟨gb476, 1, none⟩ = some (.int .i64 t470) := (blk_cell BK476.out 1).trans rfl; have hcz40_2 : w39.cell? ⟨gb476, 2, none⟩ = some (.bool t471) := (blk_cell BK476.out 2).trans rfl; have hcz40_3 : w39.cell? ⟨gb476, 3, none⟩ = some (.int .i64 t472) := (blk_cell BK476.out 3).trans rfl; have hcz40_4 : w39.cell? ⟨gb476, 4, none⟩ = some (.slice Ao35 t473.length co35) := (blk_cell BK476.out 4).trans rfl; have hfz40_0 := blk_frozen BK476.out 0; have hfz40_1 := blk_frozen BK476.out 1; have hfz40_2 := blk_frozen BK476.out 2; have hfz40_3 := blk_frozen BK476.out 3; have hfz40_4 := blk_frozen BK476.out 4) | ((with_reducible refine gate_builtin (b := .append) (xs := #[.tmp 53, .tmp 55]) rfl ?_); (try (refine gate_guard (by rfl) ?_; dsimp only)); at_builtin; refine Kd.N_append k35 (w0 := w) w.heap.size rfl (.tmp 53) (.tmp 55) 22 35 (.agg #[(.bool false), (.int .i64 0), (.bool false), (.int .i64 0), (.slice none 0 0)]) 56 rfl Try.underlying22 info35 rfl (by decide) (by omega) v481 y480 (⟨t469, t470, t471, t472, t473⟩ : S35) [.bool t469, .int .i64 t470, .bool t471, .int .i64 t472, .slice Ao35 t473.length co35] (fun k_ => k_ ≠ gb476) (fun k_ => ((fun k_ => k_ ≠ gb476)) k_ ∧ some k_ ≠ (v481 : Value).ownBlock) rfl rfl ?aP (fun _ hk => hk) ?aF ?aO ?aB ?aS ?aL ?_; (case aP => exact (k35_mkF _ _ (⟨t469, t470, t471, t472, t473⟩ : S35) (Kd.R_reads' (Kd.R_mono (ok' := (fun k_ => ((fun k_ => k_ ≠ gb476)) k_ ∧ some k_ ≠ (v481 : Value).ownBlock)) (Kd.R_types (Kd.R_apart' (HO475.out) (Kd.N_typed HO482.out) (by decide)) BK476.out (by decide)) (fun k_ hk => ⟨hk.2, hk.1.2⟩))).2.1 (Kd.R_F (Kd.R_mono (ok' := (fun k_ => ((fun k_ => k_ ≠ gb476)) k_ ∧ some k_ ≠ (v481 : Value).ownBlock)) (Kd.R_types (Kd.R_apart' (HO475.out) (Kd.N_typed HO482.out) (by decide)) BK476.out (by decide)) (fun k_ hk => ⟨hk.2, hk.1.2⟩))))); (case aB => exact (by repeat (first | (with_reducible first | exact HB.out | apply below_alloc | apply pw_below_drewN | apply below_drew1 | refine below_set ?_ GE476.out) | exact HB.out))); (case aF => exact (fun k_ hk => Kd.freshB (g := gb476) (o := .cells #[.bool t469, .int .i64 t470, .bool t471, .int .i64 t472, .slice Ao35 t473.length co35] 35 (0, 0)) (by (with_reducible repeat (first | refine blk_drewN ?_ _ | refine blk_drew ?_ | refine blk_alloc ?_ _)); exact BK476.out) k_ hk)); (case aO => exact (by (with_reducible repeat (first | apply Kd.N_alloc | apply Kd.N_drewN | apply Kd.N_drew)); exact Kd.N_mono HO482.out (fun _ hk => hk.2))); (case aS => exact (below_size (by repeat (first | (with_reducible first | exact HB.out | apply below_alloc | apply pw_below_drewN | apply below_drew1 | refine below_set ?_ GE476.out) | exact HB.out)))); (case aL => have := LMc24.out; omega); intro v484 w41 ho hb hg hat; rw [← Ny483.out] at ho; have n0_ := Aside0.mk (Kd.N_afterv (ok := (fun k_ => some k_ ≠ (.slice Ao35 t473.length co35 : Value).ownBlock ∧ k_ ≠ gb476)) (by (with_reducible repeat (first | apply Kd.N_alloc | apply Kd.N_drewN | apply Kd.N_drew)); exact HO_0.out) hg hat); have n1_ := Aside0.mk (Kd.V_afterv (ok := (fun k_ => some k_ ≠ (.slice (some ad466) t462.length co16 : Value).ownBlock ∧ some k_ ≠ (.slice Ao35 t473.length co35 : Value).ownBlock ∧ k_ ≠ gb476)) (by (with_reducible repeat (first | apply Kd.V_alloc | apply Kd.V_drewN | apply Kd.V_drew)); exact HL466_4.out) hg hat); have n2_ := Aside0.mk (Kd.V_afterv (ok := (fun k_ => some k_ ≠ (.slice (some ad466) t462.length co16 : Value).ownBlock ∧ some k_ ≠ (.slice Ao35 t473.length co35 : Value).ownBlock ∧ k_ ≠ gb476)) (by (with_reducible repeat (first | apply Kd.V_alloc | apply Kd.V_drewN | apply Kd.V_drew)); exact HL467_4.out) hg hat); have n3_ := Aside0.mk (Kd.V_afterv (ok := (fun k_ => some k_ ≠ (.slice (some ad466) t462.length co16 : Value).ownBlock ∧ some k_ ≠ (.slice Ao35 t473.length co35 : Value).ownBlock ∧ k_ ≠ gb476)) (by (with_reducible repeat (first | apply Kd.V_alloc | apply Kd.V_drewN | apply Kd.V_drew)); exact HL468_4.out) hg hat); have n4_ := Aside0.mk (blk_grown (g := gb476) (o := .cells #[.bool t469, .int .i64 t470, .bool t471, .int .i64 t472, .slice Ao35 t473.length co35] 35 (0, 0)) (by (with_reducible repeat (first | refine blk_drewN ?_ _ | refine blk_drew ?_ | refine blk_alloc ?_ _)); exact BK476.out) hg (Kd.N_away HO482.out (fun _ hk => hk.2))); have n5_ := Aside0.mk (hb); have n6_ := Aside0.mk (ho); have nh_ := Aside0.mk (HW.R_keepv (Kd.R_apart' (HO475.out) (Kd.N_typed HO482.out) (by decide)) (by intro h_; (with_reducible repeat (first | apply Kd.R_alloc | apply Kd.R_drewN | apply Kd.R_drew)); exact h_) hg); clear HO_0; clear HL466_4; clear HL467_4; clear HL468_4; clear BK476; clear HB; clear HO482; clear HO475; have HO_0 := n0_; have HL466_4 := n1_; have HL467_4 := n2_; have HL468_4 := n3_; have BK476 := n4_; have HB := n5_; have HO485 := n6_; clear n0_ n1_ n2_ n3_ n4_ n5_ n6_; clear ho hb hg hat; have HO475 := nh_; clear nh_; obtain ⟨Ao42, co42, eo42⟩ := Kd.N_slice HO485.out; subst eo42) | ((with_reducible refine gate_callee (f := 17) rfl ?_); refine goesL_ (some 58) rfl rfl Try.func17 (by kernel_rfl) rfl #[.slice Ao42 y483.length co42] rfl (by (try simp only [List.map_toArray, List.map_cons, List.map_nil]); first | done | rfl | (simp only [List.length_drop, List.length_take]; rfl)) ?_; (with_reducible refine (arb_Lost.calls _ _ y483 t486 _ ?side1 ?side2 A25.out).mono ?_); (case side1 => repeat (first | exact (Kd.N_reads' HO485.out).2.2 | (with_reducible refine Kd.C_alloc ?_ _) | (with_reducible refine Kd.C_drewN ?_ _) | (with_reducible refine Kd.C_drew ?_))); (case side2 => exact (Kd.N_reads' HO485.out).2.1); rintro e w43 ⟨v487, rfl, ho0, hb⟩; refine ⟨_, rfl, ?_⟩; have nh_ := Aside0.mk (Kd.R_below (by (with_reducible repeat (first | apply Kd.R_alloc | apply Kd.R_drewN | apply Kd.R_drew)); exact HO475.out) hb); have n0_ := Aside0.mk (Kd.N_elder' (by (with_reducible repeat (first | apply Kd.N_alloc | apply Kd.N_drewN | apply Kd.N_drew)); exact HO_0.out) (Kd.R_base ho0) hb); have n1_ := Aside0.mk (Kd.V_elder' (by (with_reducible repeat (first | apply Kd.V_alloc | apply Kd.V_drewN | apply Kd.V_drew)); exact HL466_4.out) (Kd.R_base ho0) hb); have n2_ := Aside0.mk (Kd.V_elder' (by (with_reducible repeat (first | apply Kd.V_alloc | apply Kd.V_drewN | apply Kd.V_drew)); exact HL467_4.out) (Kd.R_base ho0) hb); have n3_ := Aside0.mk (Kd.V_elder' (by (with_reducible repeat (first | apply Kd.V_alloc | apply Kd.V_drewN | apply Kd.V_drew)); exact HL468_4.out) (Kd.R_base ho0) hb); have n4_ := Aside0.mk (Kd.N_elder' (by (with_reducible repeat (first | apply Kd.N_alloc | apply Kd.N_drewN | apply Kd.N_drew)); exact HO485.out) (Kd.R_base ho0) hb); have n5_ := Aside0.mk (Kd.R_lower ho0 (below_size (by repeat (first | (with_reducible first | exact HB.out | apply below_alloc | apply pw_below_drewN | apply below_drew1 | refine below_set ?_ GE476.out) | exact HB.out)))); have n6_ := Aside0.mk (blk_below (g := gb476) (o := .cells #[.bool t469, .int .i64 t470, .bool t471, .int .i64 t472, .slice Ao35 t473.length co35] 35 (0, 0)) (by (with_reducible repeat (first | refine blk_drewN ?_ _ | refine blk_drew ?_ | refine blk_alloc ?_ _)); exact BK476.out) hb); have n7_ := Aside0.mk (below_step (by repeat (first | (with_reducible first | exact HB.out | apply below_alloc | apply pw_below_drewN | apply below_drew1 | refine below_set ?_ GE476.out) | exact HB.out)) hb); clear HO_0; clear HL466_4; clear HL467_4; clear HL468_4; clear HO485; clear BK476; clear HB; have HO_0 := n0_; have HL466_4 := n1_; have HL467_4 := n2_; have HL468_4 := n3_; have HO485 := n4_; have HO488 := n5_; have BK476 := n6_; have HB := n7_; clear n0_ n1_ n2_ n3_ n4_ n5_ n6_ n7_; clear HO475; have HO475 := nh_; clear nh_; (try clear hb); (try clear hb2); (try clear hk); (try clear hi); (try clear ho0)))
                  (try simp only [Act.put, List.setIfInBounds_toArray, List.set_cons_zero, List.set_cons_succ])
                  go_cut [77] (fun v77 wc => ∃ (kq : Nat) (x77_25 : Bool), v77 = .bool x77_25 ∧ Aside0 (phaetonlaw06_ArbTwins.j1 kq t461 y483 t486 x77_25 t469 t470 t471 t472 t473 = some r) ∧ Aside0 (kq ≤ kj12) ∧ Aside0 (Kd.N k35 35 wc w.heap.size (fun k_ => some k_ ≠ (v487 : Value).ownBlock ∧ k_ ≠ gb476) (.slice Ao42 y483.length co42) y483) ∧ Aside0 (Kd.R (Kd.int .i64) 3 wc w.heap.size (fun _ => True) v487 t486) ∧ Aside0 (Kd.R (Kd.int .u8) 5 wc w.heap.size (fun _ => True) (.slice Ao35 t473.length co35) t473) ∧ Aside0 (wc.heap[gb476]? = some (.cells #[.bool t469, .int .i64 t470, .bool t471, .int .i64 t472, (.slice Ao35 t473.length co35)] 35 (0, 0))) ∧ Aside0 (Below w.heap.size w wc))
                  case first =>
                    have H := HC26.out
                    clear HC26
                    by_cases c44 : (t486.length : Int) = (y483.length : Int)
                    · rw [if_pos c44] at H
                      have c44b0 : ((t486.length : Int) == (y483.length : Int)) = true := beq_iff_eq.mpr c44
                      have c44b1 : ((t486.length : Int) != (y483.length : Int)) = false := bne_eq_false_iff_eq.mpr c44
                      have c44b2 : (t486.length == y483.length) = true := by first | simpa using c44 | (simp at c44 ⊢; omega)
                      clear c44
                      (first | rw [c44b0] | (simp only [i64_w, i32_w]; rw [c44b0]) | skip)
                      replace H := Option.bind_eq_some_iff.mp H
                      obtain ⟨t489, A450, H⟩ := H
                      replace H : (if t489 = t465 then (if 0 ≤ (t462.length : Int) then (if (t462.length : Int) < (t486.length : Int) then (phaetonlaw06_ArbTwins.j1 kj12 t461 y483 t486 ((rd t486 (t462.length : Int)) != (-1)) t469 t470 t471 t472 t473) else (none)) else (none)) else (phaetonlaw06_ArbTwins.j1 kj12 t461 y483 t486 true t469 t470 t471 t472 t473)) = some r := H
                      have A45 := Aside0.mk A450
                      clear A450
                      by_cases c46 : t489 = t465
                      · rw [if_pos c46] at H
                        have c46b0 : (t489 == t465) = true := beq_iff_eq.mpr c46
                        have c46b1 : (t489 != t465) = false := bne_eq_false_iff_eq.mpr c46
                        clear c46
                        by_cases c47 : 0 ≤ (t462.length : Int)
                        · rw [if_pos c47] at H
                          have c47b0 : decide (0 ≤ (t462.length : Int)) = true := decide_eq_true c47
                          have c47b1 : decide (0 ≤ t462.length) = true := decide_eq_true (by omega)
                          clear c47
                          by_cases c48 : (t462.length : Int) < (t486.length : Int)
                          · rw [if_pos c48] at H
                            have c48b0 : decide ((t462.length : Int) < (t486.length : Int)) = true := decide_eq_true c48
                            have c48b1 : decide (t462.length < t486.length) = true := decide_eq_true (Int.ofNat_lt.mp c48)
                            clear c48
                            have H' := Aside0.mk H
                            clear H
                            obtain ⟨Ao49, co49, eo49⟩ := Kd.R_slice HO488.out
                            subst eo49
                            go_wp2_with (first | (go_at_call 14; (with_reducible refine (arb_Win.calls _ _ y483 t489 _ ?side1 ?side2 A45.out).mono ?_); (case side1 => repeat (first | exact (Kd.N_reads' HO485.out).2.2 | (with_reducible refine Kd.C_alloc ?_ _) | (with_reducible refine Kd.C_drewN ?_ _) | (with_reducible refine Kd.C_drew ?_))); (case side2 => exact (Kd.N_reads' HO485.out).2.1); rintro e w50 ⟨rfl, hb⟩; have nh_ := Aside0.mk (Kd.R_below (by (with_reducible repeat (first | apply Kd.R_alloc | apply Kd.R_drewN | apply Kd.R_drew)); exact HO475.out) hb); have n0_ := Aside0.mk (Kd.N_below (by (with_reducible repeat (first | apply Kd.N_alloc | apply Kd.N_drewN | apply Kd.N_drew)); exact HO_0.out) hb); have n1_ := Aside0.mk (Kd.V_below (by (with_reducible repeat (first | apply Kd.V_alloc | apply Kd.V_drewN | apply Kd.V_drew)); exact HL466_4.out) hb); have n2_ := Aside0.mk (Kd.V_below (by (with_reducible repeat (first | apply Kd.V_alloc | apply Kd.V_drewN | apply Kd.V_drew)); exact HL467_4.out) hb); have n3_ := Aside0.mk (Kd.V_below (by (with_reducible repeat (first | apply Kd.V_alloc | apply Kd.V_drewN | apply Kd.V_drew)); exact HL468_4.out) hb); have n4_ := Aside0.mk (Kd.N_below (by (with_reducible repeat (first | apply Kd.N_alloc | apply Kd.N_drewN | apply Kd.N_drew)); exact HO485.out) hb); have n5_ := Aside0.mk (Kd.R_below (by (with_reducible repeat (first | apply Kd.R_alloc | apply Kd.R_drewN | apply Kd.R_drew)); exact HO488.out) hb); have n6_ := Aside0.mk (blk_below (g := gb476) (o := .cells #[.bool t469, .int .i64 t470, .bool t471, .int .i64 t472, .slice Ao35 t473.length co35] 35 (0, 0)) (by (with_reducible repeat (first | refine blk_drewN ?_ _ | refine blk_drew ?_ | refine blk_alloc ?_ _)); exact BK476.out) hb); have n7_ := Aside0.mk (below_step (by repeat (first | (with_reducible first | exact HB.out | apply below_alloc | apply pw_below_drewN | apply below_drew1 | refine below_set ?_ GE476.out) | exact HB.out)) hb); clear HO_0; clear HL466_4; clear HL467_4; clear HL468_4; clear HO485; clear HO488; clear BK476; clear HB; have HO_0 := n0_; have HL466_4 := n1_; have HL467_4 := n2_; have HL468_4 := n3_; have HO485 := n4_; have HO488 := n5_; have BK476 := n6_; have HB := n7_; clear n0_ n1_ n2_ n3_ n4_ n5_ n6_ n7_; clear HO475; have HO475 := nh_; clear nh_; (try clear hb); (try clear hb2); (try clear hk); (try clear hi); have p490 : 0 ≤ ((t462.length : Int) : Int) := of_decide_eq_true (by first | (with_reducible assumption) | assumption); have q490 : (t462.length : Int) < (t486.length : Int) := of_decide_eq_true (by first | (with_reducible assumption) | assumption); obtain ⟨ad490, e490, hx490_0⟩ := Kd.at_int (Kd.R_reads' HO488.out).2.2 (t462.length : Int) p490 q490; cases e490; (try simp only [Go.IntWalk.toNatUp] at hx490_0); replace p490 := eq_true p490; replace q490 := eq_true q490))
                            go_meet
                            case rel => exact ⟨_, (((rd t486 (t462.length : Int)) != (-1))), (by first | rfl | (simp; done) | (simp [*]; done)), H', ⟨by have := HJ12.out; first | omega | exact Nat.le_refl _⟩, ⟨by (with_reducible repeat (first | apply Kd.N_alloc | apply Kd.N_drewN | apply Kd.N_drew)); exact Kd.N_mono HO485.out (fun _ hk => ⟨hk.2, hk.1⟩)⟩, ⟨by (with_reducible repeat (first | apply Kd.R_alloc | apply Kd.R_drewN | apply Kd.R_drew)); exact HO488.out⟩, ⟨by (with_reducible repeat (first | apply Kd.R_alloc | apply Kd.R_drewN | apply Kd.R_drew)); exact HO475.out⟩, ⟨by (with_reducible repeat (first | refine blk_drewN ?_ _ | refine blk_drew ?_ | refine blk_alloc ?_ _)); exact BK476.out⟩, ⟨by repeat (first | (with_reducible first | exact HB.out | apply below_alloc | apply pw_below_drewN | apply below_drew1 | refine below_set ?_ GE476.out) | exact HB.out)⟩⟩
                          · rw [if_neg c48] at H
                            exact absurd H (by simp)
                        · rw [if_neg c47] at H
                          exact absurd H (by simp)
                      · rw [if_neg c46] at H
                        have c46b0 : (t489 == t465) = false := beq_eq_false_iff_ne.mpr c46
                        have c46b1 : (t489 != t465) = true := bne_iff_ne.mpr c46
                        have H' := Aside0.mk H
                        clear H
                        obtain ⟨Ao51, co51, eo51⟩ := Kd.R_slice HO488.out
                        subst eo51
                        go_wp2_with (first | (go_at_call 14; (with_reducible refine (arb_Win.calls _ _ y483 t489 _ ?side1 ?side2 A45.out).mono ?_); (case side1 => repeat (first | exact (Kd.N_reads' HO485.out).2.2 | (with_reducible refine Kd.C_alloc ?_ _) | (with_reducible refine Kd.C_drewN ?_ _) | (with_reducible refine Kd.C_drew ?_))); (case side2 => exact (Kd.N_reads' HO485.out).2.1); rintro e w52 ⟨rfl, hb⟩; have nh_ := Aside0.mk (Kd.R_below (by (with_reducible repeat (first | apply Kd.R_alloc | apply Kd.R_drewN | apply Kd.R_drew)); exact HO475.out) hb); have n0_ := Aside0.mk (Kd.N_below (by (with_reducible repeat (first | apply Kd.N_alloc | apply Kd.N_drewN | apply Kd.N_drew)); exact HO_0.out) hb); have n1_ := Aside0.mk (Kd.V_below (by (with_reducible repeat (first | apply Kd.V_alloc | apply Kd.V_drewN | apply Kd.V_drew)); exact HL466_4.out) hb); have n2_ := Aside0.mk (Kd.V_below (by (with_reducible repeat (first | apply Kd.V_alloc | apply Kd.V_drewN | apply Kd.V_drew)); exact HL467_4.out) hb); have n3_ := Aside0.mk (Kd.V_below (by (with_reducible repeat (first | apply Kd.V_alloc | apply Kd.V_drewN | apply Kd.V_drew)); exact HL468_4.out) hb); have n4_ := Aside0.mk (Kd.N_below (by (with_reducible repeat (first | apply Kd.N_alloc | apply Kd.N_drewN | apply Kd.N_drew)); exact HO485.out) hb); have n5_ := Aside0.mk (Kd.R_below (by (with_reducible repeat (first | apply Kd.R_alloc | apply Kd.R_drewN | apply Kd.R_drew)); exact HO488.out) hb); have n6_ := Aside0.mk (blk_below (g := gb476) (o := .cells #[.bool t469, .int .i64 t470, .bool t471, .int .i64 t472, .slice Ao35 t473.length co35] 35 (0, 0)) (by (with_reducible repeat (first | refine blk_drewN ?_ _ | refine blk_drew ?_ | refine blk_alloc ?_ _)); exact BK476.out) hb); have n7_ := Aside0.mk (below_step (by repeat (first | (with_reducible first | exact HB.out | apply below_alloc | apply pw_below_drewN | apply below_drew1 | refine below_set ?_ GE476.out) | exact HB.out)) hb); clear HO_0; clear HL466_4; clear HL467_4; clear HL468_4; clear HO485; clear HO488; clear BK476; clear HB; have HO_0 := n0_; have HL466_4 := n1_; have HL467_4 := n2_; have HL468_4 := n3_; have HO485 := n4_; have HO488 := n5_; have BK476 := n6_; have HB := n7_; clear n0_ n1_ n2_ n3_ n4_ n5_ n6_ n7_; clear HO475; have HO475 := nh_; clear nh_; (try clear hb); (try clear hb2); (try clear hk); (try clear hi)))
                        go_meet
                        case rel => exact ⟨_, (true), (by first | rfl | (simp; done) | (simp [*]; done)), H', ⟨by have := HJ12.out; first | omega | exact Nat.le_refl _⟩, ⟨by (with_reducible repeat (first | apply Kd.N_alloc | apply Kd.N_drewN | apply Kd.N_drew)); exact Kd.N_mono HO485.out (fun _ hk => ⟨hk.2, hk.1⟩)⟩, ⟨by (with_reducible repeat (first | apply Kd.R_alloc | apply Kd.R_drewN | apply Kd.R_drew)); exact HO488.out⟩, ⟨by (with_reducible repeat (first | apply Kd.R_alloc | apply Kd.R_drewN | apply Kd.R_drew)); exact HO475.out⟩, ⟨by (with_reducible repeat (first | refine blk_drewN ?_ _ | refine blk_drew ?_ | refine blk_alloc ?_ _)); exact BK476.out⟩, ⟨by repeat (first | (with_reducible first | exact HB.out | apply below_alloc | apply pw_below_drewN | apply below_drew1 | refine below_set ?_ GE476.out) | exact HB.out)⟩⟩
                    · rw [if_neg c44] at H
                      have c44b0 : ((t486.length : Int) == (y483.length : Int)) = false := beq_eq_false_iff_ne.mpr c44
                      have c44b1 : ((t486.length : Int) != (y483.length : Int)) = true := bne_iff_ne.mpr c44
                      have c44b2 : (t486.length == y483.length) = false := by first | simpa using c44 | (simp at c44 ⊢; omega)
                      (first | rw [c44b0] | (simp only [i64_w, i32_w]; rw [c44b0]) | skip)
                      have H' := Aside0.mk H
                      clear H
                      obtain ⟨Ao53, co53, eo53⟩ := Kd.R_slice HO488.out
                      subst eo53
                      go_wp2
                      go_meet
                      case rel => exact ⟨_, (true), (by first | rfl | (simp; done) | (simp [*]; done)), H', ⟨by have := HJ12.out; first | omega | exact Nat.le_refl _⟩, ⟨by (with_reducible repeat (first | apply Kd.N_alloc | apply Kd.N_drewN | apply Kd.N_drew)); exact Kd.N_mono HO485.out (fun _ hk => ⟨hk.2, hk.1⟩)⟩, ⟨by (with_reducible repeat (first | apply Kd.R_alloc | apply Kd.R_drewN | apply Kd.R_drew)); exact HO488.out⟩, ⟨by (with_reducible repeat (first | apply Kd.R_alloc | apply Kd.R_drewN | apply Kd.R_drew)); exact HO475.out⟩, ⟨by (with_reducible repeat (first | refine blk_drewN ?_ _ | refine blk_drew ?_ | refine blk_alloc ?_ _)); exact BK476.out⟩, ⟨by repeat (first | (with_reducible first | exact HB.out | apply below_alloc | apply pw_below_drewN | apply below_drew1 | refine below_set ?_ GE476.out) | exact HB.out)⟩⟩
                  case rest =>
                    clear HC26
                    try clear c1
                    try clear c2
                    try clear p2
                    try clear c4
                    try clear p4
                    try clear q4
                    try clear hx4
                    try clear c17
                    try clear c23
                    try clear c24
                    try clear c25
                    try clear c44
                    try clear c44b0
                    try clear c44b1
                    try clear c44b2
                    try clear c46
                    try clear c46b0
                    try clear c46b1
                    try clear p46
                    try clear q46
                    try clear hx46
                    try clear c47
                    try clear c47b0
                    try clear c47b1
                    try clear c48
                    try clear c48b0
                    try clear c48b1
                    try clear p49
                    try clear q49
                    try clear hx49
                    try clear hcz40_0
                    try clear hcz40_1
                    try clear hcz40_2
                    try clear hcz40_3
                    try clear hcz40_4
                    try clear hfz40_0
                    try clear hfz40_1
                    try clear hfz40_2
                    try clear hfz40_3
                    try clear hfz40_4
                    try clear hx466_0
                    try clear hx466_1
                    try clear hx466_2
                    try clear hx466_3
                    try clear hx466_4
                    try clear hx467_0
                    try clear hx467_1
                    try clear hx467_2
                    try clear hx467_3
                    try clear hx467_4
                    try clear hx468_0
                    try clear hx468_1
                    try clear hx468_2
                    try clear hx468_3
                    try clear hx468_4
                    try clear hx490_0
                    try clear p466
                    try clear p467
                    try clear p468
                    try clear p490
                    try clear q466
                    try clear q467
                    try clear q468
                    try clear q490
                    obtain ⟨kq, x77_25, rfl, HA, HJ25, HO_8, HO_9, HO_477004, BK476, HB⟩ := hcut
                    cases kq with
                    | zero => exact absurd HA.out (by simp [phaetonlaw06_ArbTwins.j1])
                    | succ kj25 =>
                      have H := HA.out
                      clear HA
                      simp only [phaetonlaw06_ArbTwins.j1] at H
                      by_cases c54 : x77_25 = true
                      · subst c54
                        have H1 : (none) = some r := by rw [if_pos rfl] at H; exact H
                        clear H
                        have H := H1
                        clear H1
                        exact absurd H (by simp)
                      · replace c54 := Bool.eq_false_iff.mpr c54
                        subst c54
                        have H1 : (phaetonlaw06_ArbTwins.l0 kj25 t461 y483 t486 0 t469 t470 t471 t472 t473) = some r := by rw [if_neg (show ¬ (false = true) by decide)] at H; exact H
                        clear H
                        have H := H1
                        clear H1
                        have H' := Aside0.mk H
                        clear H
                        go_wp2
                        go_loopg [10] kj25 (fun kq v10 w' => ∃ (x10_3 : Int), v10 = .int .i64 x10_3 ∧ Aside0 (phaetonlaw06_ArbTwins.l0 kq t461 y483 t486 x10_3 t469 t470 t471 t472 t473 = some r) ∧ Aside0 (kq ≤ kj25) ∧ Aside0 (Kd.N k35 35 w' w.heap.size (fun k_ => some k_ ≠ (v487 : Value).ownBlock ∧ k_ ≠ gb476) (.slice Ao42 y483.length co42) y483) ∧ Aside0 (Kd.R (Kd.int .i64) 3 w' w.heap.size (fun _ => True) v487 t486) ∧ Aside0 (Kd.R (Kd.int .u8) 5 w' w.heap.size (fun _ => True) (.slice Ao35 t473.length co35) t473) ∧ Aside0 (w'.heap[gb476]? = some (.cells #[.bool t469, .int .i64 t470, .bool t471, .int .i64 t472, (.slice Ao35 t473.length co35)] 35 (0, 0))) ∧ Aside0 (Below w.heap.size w w'))
                        case atStart => exact ⟨(0), (by first | rfl | (simp; done) | (simp [*]; done)), H', ⟨Nat.le_refl _⟩, ⟨by (with_reducible repeat (first | apply Kd.N_alloc | apply Kd.N_drewN | apply Kd.N_drew)); exact HO_8.out⟩, ⟨by (with_reducible repeat (first | apply Kd.R_alloc | apply Kd.R_drewN | apply Kd.R_drew)); exact HO_9.out⟩, ⟨by (with_reducible repeat (first | apply Kd.R_alloc | apply Kd.R_drewN | apply Kd.R_drew)); exact HO_477004.out⟩, ⟨by (with_reducible repeat (first | refine blk_drewN ?_ _ | refine blk_drew ?_ | refine blk_alloc ?_ _)); exact BK476.out⟩, ⟨by repeat (first | (with_reducible first | exact HB.out | apply below_alloc | apply pw_below_drewN | apply below_drew1 | refine below_set ?_ GE476.out) | exact HB.out)⟩⟩
                        case round =>
                          clear H'
                          try clear c1
                          try clear c2
                          try clear p2
                          try clear c4
                          try clear p4
                          try clear q4
                          try clear hx4
                          try clear c5
                          try clear c17
                          try clear c23
                          try clear c24
                          try clear c25
                          try clear c44
                          try clear c44b0
                          try clear c44b1
                          try clear c44b2
                          try clear c46
                          try clear c46b0
                          try clear c46b1
                          try clear p46
                          try clear q46
                          try clear hx46
                          try clear c47
                          try clear c47b0
                          try clear c47b1
                          try clear c48
                          try clear c48b0
                          try clear c48b1
                          try clear p49
                          try clear q49
                          try clear hx49
                          try clear c54
                          try clear hcz40_0
                          try clear hcz40_1
                          try clear hcz40_2
                          try clear hcz40_3
                          try clear hcz40_4
                          try clear hfz40_0
                          try clear hfz40_1
                          try clear hfz40_2
                          try clear hfz40_3
                          try clear hfz40_4
                          try clear hx466_0
                          try clear hx466_1
                          try clear hx466_2
                          try clear hx466_3
                          try clear hx466_4
                          try clear hx467_0
                          try clear hx467_1
                          try clear hx467_2
                          try clear hx467_3
                          try clear hx467_4
                          try clear hx468_0
                          try clear hx468_1
                          try clear hx468_2
                          try clear hx468_3
                          try clear hx468_4
                          try clear hx490_0
                          try clear p2
                          try clear p4
                          try clear p46
                          try clear p466
                          try clear p467
                          try clear p468
                          try clear p49
                          try clear p490
                          try clear q4
                          try clear q46
                          try clear q466
                          try clear q467
                          try clear q468
                          try clear q49
                          try clear q490
                          obtain ⟨x10_3, rfl, HA, HK3, HO_8, HO_9, HO_477004, BK476, HB⟩ := hrel
                          cases gk with
                          | zero => exact absurd HA.out (by simp [phaetonlaw06_ArbTwins.l0])
                          | succ k3 =>
                            have H := HA.out
                            clear HA
                            simp only [phaetonlaw06_ArbTwins.l0] at H
                            by_cases c55 : x10_3 < (y483.length : Int)
                            · rw [if_pos c55] at H
                              have c55b0 : decide (x10_3 < (y483.length : Int)) = true := decide_eq_true c55
                              clear c55
                              by_cases c56 : 0 ≤ x10_3
                              · rw [if_pos c56] at H
                                have c56b0 : decide (0 ≤ x10_3) = true := decide_eq_true c56
                                clear c56
                                by_cases c57 : x10_3 < (t486.length : Int)
                                · rw [if_pos c57] at H
                                  have c57b0 : decide (x10_3 < (t486.length : Int)) = true := decide_eq_true c57
                                  clear c57
                                  replace H := Option.bind_eq_some_iff.mp H
                                  obtain ⟨t493, A580, H⟩ := H
                                  replace H : ((phaetonref06_Rank.f k3 t469 t470 t471 t472 t473).bind fun t496 => ((phaetonref03_Ints.f k3 t493 t496).bind fun t499 => (if (((rd t486 x10_3) == (-1)) != t499) = true then (none) else (phaetonlaw06_ArbTwins.l0 k3 t461 y483 t486 (wrap64 (x10_3 + 1)) t469 t470 t471 t472 t473)))) = some r := H
                                  have A58 := Aside0.mk A580
                                  clear A580
                                  replace H := Option.bind_eq_some_iff.mp H
                                  obtain ⟨t496, A590, H⟩ := H
                                  replace H : ((phaetonref03_Ints.f k3 t493 t496).bind fun t499 => (if (((rd t486 x10_3) == (-1)) != t499) = true then (none) else (phaetonlaw06_ArbTwins.l0 k3 t461 y483 t486 (wrap64 (x10_3 + 1)) t469 t470 t471 t472 t473))) = some r := H
                                  have A59 := Aside0.mk A590
                                  clear A590
                                  replace H := Option.bind_eq_some_iff.mp H
                                  obtain ⟨t499, A600, H⟩ := H
                                  replace H : (if (((rd t486 x10_3) == (-1)) != t499) = true then (none) else (phaetonlaw06_ArbTwins.l0 k3 t461 y483 t486 (wrap64 (x10_3 + 1)) t469 t470 t471 t472 t473)) = some r := H
                                  have A60 := Aside0.mk A600
                                  clear A600
                                  by_cases c61 : (((rd t486 x10_3) == (-1)) != t499) = true
                                  · rw [if_pos c61] at H
                                    exact absurd H (by simp)
                                  · rw [if_neg c61] at H
                                    have c61b0 : (((rd t486 x10_3) == (-1)) != t499) = false := by simpa using c61
                                    (try (have c61b1 : decide (((rd t486 x10_3) == (-1)) = t499) = true := by simpa using c61))
                                    (try (have c61b2 : (((rd t486 x10_3) == (-1)) == t499) = true := by simpa using c61))
                                    clear c61
                                    have H' := Aside0.mk H
                                    clear H
                                    try go_wp2
                                    have n0_ := Aside0.mk (Kd.N_drew HO_8.out)
                                    have n1_ := Aside0.mk (Kd.R_drew HO_9.out)
                                    have n2_ := Aside0.mk (Kd.R_drew HO_477004.out)
                                    have n3_ := Aside0.mk (blk_drew BK476.out)
                                    have n4_ := Aside0.mk (below_drew1 HB.out)
                                    clear HO_8
                                    clear HO_9
                                    clear HO_477004
                                    clear BK476
                                    clear HB
                                    have HO_8 := n0_
                                    have HO_9 := n1_
                                    have HO_477004 := n2_
                                    have BK476 := n3_
                                    have HB := n4_
                                    clear n0_ n1_ n2_ n3_ n4_
                                    obtain ⟨Ao63, co63, eo63⟩ := Kd.R_slice HO_9.out
                                    (first | subst eo63 | (injection eo63 with f1_ f2_ f3_; have f4_ := f1_.symm; have f5_ := f3_.symm; clear f1_ f2_ f3_; subst f4_; subst f5_))
                                    have p491 : 0 ≤ (x10_3 : Int) := of_decide_eq_true (by first | (with_reducible assumption) | assumption)
                                    have q491 : x10_3 < (t486.length : Int) := of_decide_eq_true (by first | (with_reducible assumption) | assumption)
                                    obtain ⟨ad491, e491, hx491_0⟩ := Kd.at_int (Kd.R_reads' HO_9.out).2.2 x10_3 p491 q491
                                    cases e491
                                    replace p491 := eq_true p491
                                    replace q491 := eq_true q491
                                    have p492 : 0 ≤ (x10_3 : Int) := of_decide_eq_true (by first | (with_reducible assumption) | assumption)
                                    have q492 : x10_3 < (y483.length : Int) := of_decide_eq_true (by first | (with_reducible assumption) | assumption)
                                    obtain ⟨ad492, A492_4, c492_4, e492, hx492_0, hx492_1, hx492_2, hx492_3, hx492_4, hl492_4, hi492_4⟩ := at_T35 (Kd.N_reads' HO_8.out).2.2 x10_3 p492 q492
                                    cases e492
                                    obtain ⟨ce492, hce492, hMe492, hcc492⟩ := Kd.N_get HO_8.out z35 x10_3 p492 (by first | exact q492 | exact of_decide_eq_true (by first | (with_reducible assumption) | assumption) | (have e_ := (Kd.N_reads' HO_8.out).1; omega))
                                    obtain ⟨ua492_4, uc492_4, rfl, ul492_4, ge492_4⟩ := k35_openF hMe492
                                    have hv492_4 := hcc492 4 _ rfl
                                    rw [add_field _ _ 4 (by omega)] at hv492_4
                                    replace hv492_4 := Option.some.inj (hv492_4.symm.trans hx492_4)
                                    injection hv492_4 with hva_ hvn_ hvc_
                                    rw [hva_] at ge492_4
                                    rw [hvc_] at ul492_4
                                    have HL492_4 := Aside0.mk (show Kd.V (Kd.int .u8) 5 _ w.heap.size _ _ ((rd_T35 y483 x10_3).f4) from Kd.V_mk ul492_4 ge492_4)
                                    clear hva_ hvn_ hvc_ ge492_4 ul492_4
                                    clear hcc492 hce492
                                    have HR492_4 := Aside0.mk hi492_4
                                    have HC492_4 := Aside0.mk hl492_4
                                    clear hi492_4 hl492_4
                                    replace p492 := eq_true p492
                                    replace q492 := eq_true q492
                                    refine start_ (n := 14) (S := fun w' => w'.cell? ⟨gb476, 0, none⟩ = some (.bool t469) ∧ w'.cell? ⟨gb476, 1, none⟩ = some (.int .i64 t470) ∧ w'.cell? ⟨gb476, 2, none⟩ = some (.bool t471) ∧ w'.cell? ⟨gb476, 3, none⟩ = some (.int .i64 t472) ∧ w'.cell? ⟨gb476, 4, none⟩ = some (.slice Ao35 t473.length co35) ∧ w'.cell? (ad491.add (x10_3).toNat) = some (.int .i64 (rd t486 x10_3)) ∧ w'.cell? (ad492.add ((x10_3).toNat * 5)) = some (.bool ((rd_T35 y483 x10_3).f0)) ∧ w'.cell? ⟨(ad492.add ((x10_3).toNat * 5)).block, (ad492.add ((x10_3).toNat * 5)).off + 1, none⟩ = some (.int .i64 ((rd_T35 y483 x10_3).f1)) ∧ w'.cell? ⟨(ad492.add ((x10_3).toNat * 5)).block, (ad492.add ((x10_3).toNat * 5)).off + 2, none⟩ = some (.bool ((rd_T35 y483 x10_3).f2)) ∧ w'.cell? ⟨(ad492.add ((x10_3).toNat * 5)).block, (ad492.add ((x10_3).toNat * 5)).off + 3, none⟩ = some (.int .i64 ((rd_T35 y483 x10_3).f3)) ∧ w'.cell? ⟨(ad492.add ((x10_3).toNat * 5)).block, (ad492.add ((x10_3).toNat * 5)).off + 4, none⟩ = some (.slice A492_4 ((rd_T35 y483 x10_3).f4).length c492_4)) (ds := []) #[false, false, false, false, false, false, false, false, false, false, false, false, false, false] (by kernel_rfl) rfl rfl ⟨(blk_cell BK476.out 0).trans rfl, (blk_cell BK476.out 1).trans rfl, (blk_cell BK476.out 2).trans rfl, (blk_cell BK476.out 3).trans rfl, (blk_cell BK476.out 4).trans rfl, hx491_0, hx492_0, hx492_1, hx492_2, hx492_3, hx492_4⟩ (fun hHeld => ?_); refine with_tabW phaetonlaw06_ArbTwins.tab17 phaetonlaw06_ArbTwins.bits17 (fun HT_ HW_ => ?_)
                                    generalize wr.drew = w62 at HO_8 HO_9 HO_477004 BK476 HB HL492_4 HR492_4 hx491_0 hx492_0 hx492_1 hx492_2 hx492_3 hx492_4 hHeld ⊢
                                    refine pure_ (i := 0) (N := some 84) (v := ?_) (a' := ?_) #[true, false, false, false, false, false, false, false, false, false, false, false, false, false] rfl rfl (any_of HT_.out (by kernel_rfl)) (fun _ _ _ h => h) (Or.inl ⟨by rfl, ?_⟩) ?_ ?_
                                    rotate_left
                                    · intro w'
                                      go_simp
                                      with_reducible rfl
                                    rotate_left
                                    · simp only [Act.put, List.setIfInBounds_toArray, List.set_cons_zero, List.set_cons_succ, i64_w, i32_w]
                                      rfl
                                    refine pure_ (i := 1) (N := some 85) (v := ?_) (a' := ?_) #[true, true, false, false, false, false, false, false, false, false, false, false, false, false] rfl rfl (any_of HT_.out (by kernel_rfl)) (fun _ _ _ h => h) (Or.inl ⟨by rfl, ?_⟩) ?_ ?_
                                    rotate_left
                                    · intro w'
                                      go_simp
                                      with_reducible rfl
                                    rotate_left
                                    · simp only [Act.put, List.setIfInBounds_toArray, List.set_cons_zero, List.set_cons_succ, i64_w, i32_w]
                                      rfl
                                    refine pure_ (i := 2) (N := some 86) (v := ?_) (a' := ?_) #[true, true, true, false, false, false, false, false, false, false, false, false, false, false] rfl rfl (any_of HT_.out (by kernel_rfl)) (fun _ _ _ h => h) (Or.inl ⟨by rfl, ?_⟩) ?_ ?_
                                    rotate_left
                                    · intro w'
                                      go_simp
                                      with_reducible rfl
                                    rotate_left
                                    · simp only [Act.put, List.setIfInBounds_toArray, List.set_cons_zero, List.set_cons_succ, i64_w, i32_w]
                                      rfl
                                    refine pure_ (i := 5) (N := some 89) (v := ?_) (a' := ?_) #[true, true, true, false, false, true, false, false, false, false, false, false, false, false] rfl rfl (any_of HT_.out (by kernel_rfl)) (fun _ _ _ h => h) (Or.inl ⟨by rfl, ?_⟩) ?_ ?_
                                    rotate_left
                                    · intro w'
                                      go_simp
                                      with_reducible rfl
                                    rotate_left
                                    · simp only [Act.put, List.setIfInBounds_toArray, List.set_cons_zero, List.set_cons_succ, i64_w, i32_w]
                                      rfl
                                    refine pure_ (i := 6) (N := some 90) (v := ?_) (a' := ?_) #[true, true, true, false, false, true, true, false, false, false, false, false, false, false] rfl rfl (any_of HT_.out (by kernel_rfl)) (fun _ _ _ h => h) (Or.inl ⟨by rfl, ?_⟩) ?_ ?_
                                    rotate_left
                                    · intro w'
                                      go_simp
                                      with_reducible rfl
                                    rotate_left
                                    · simp only [Act.put, List.setIfInBounds_toArray, List.set_cons_zero, List.set_cons_succ, i64_w, i32_w]
                                      rfl
                                    refine pure_ (i := 7) (N := some 91) (v := ?_) (a' := ?_) #[true, true, true, false, false, true, true, true, false, false, false, false, false, false] rfl rfl (any_of HT_.out (by kernel_rfl)) (fun _ _ _ h => h) (Or.inl ⟨by rfl, ?_⟩) ?_ ?_
                                    rotate_left
                                    · intro w'
                                      go_simp
                                      with_reducible rfl
                                    rotate_left
                                    · simp only [Act.put, List.setIfInBounds_toArray, List.set_cons_zero, List.set_cons_succ, i64_w, i32_w]
                                      rfl
                                    refine take_ (i := 3) (N := some 87) (v := ?_) (a' := ?_) #[true, true, true, true, false, true, true, true, false, false, false, false, false, false] rfl rfl (take_ofW HT_.out HW_.out (by kernel_rfl)) (fun _ _ _ h => h) (Or.inl ⟨by rfl, ?_⟩) hHeld ?_ ?_
                                    rotate_left
                                    · rintro w' ⟨s0, s1, s2, s3, s4, s5, s6, s7, s8, s9, s10⟩
                                      go_simp
                                      with_reducible rfl
                                    rotate_left
                                    · simp only [Act.put, List.setIfInBounds_toArray, List.set_cons_zero, List.set_cons_succ, i64_w, i32_w]
                                      rfl
                                    refine pure_ (i := 4) (N := some 88) (v := ?_) (a' := ?_) #[true, true, true, true, true, true, true, true, false, false, false, false, false, false] rfl rfl (any_of HT_.out (by kernel_rfl)) (fun _ _ _ h => h) (Or.inl ⟨by rfl, ?_⟩) ?_ ?_
                                    rotate_left
                                    · intro w'
                                      go_simp
                                      with_reducible rfl
                                    rotate_left
                                    · simp only [Act.put, List.setIfInBounds_toArray, List.set_cons_zero, List.set_cons_succ, i64_w, i32_w]
                                      rfl
                                    refine take_ (i := 8) (N := some 92) (v := ?_) (a' := ?_) #[true, true, true, true, true, true, true, true, true, false, false, false, false, false] rfl rfl (take_ofW HT_.out HW_.out (by kernel_rfl)) (fun _ _ _ h => h) (Or.inl ⟨by rfl, ?_⟩) hHeld ?_ ?_
                                    rotate_left
                                    · rintro w' ⟨s0, s1, s2, s3, s4, s5, s6, s7, s8, s9, s10⟩
                                      go_simp
                                      with_reducible rfl
                                    rotate_left
                                    · simp only [Act.put, List.setIfInBounds_toArray, List.set_cons_zero, List.set_cons_succ, i64_w, i32_w]
                                      rfl
                                    refine take_ (i := 10) (N := some 94) (v := ?_) (a' := ?_) #[true, true, true, true, true, true, true, true, true, false, true, false, false, false] rfl rfl (take_ofW HT_.out HW_.out (by kernel_rfl)) (fun _ _ _ h => h) (Or.inl ⟨by rfl, ?_⟩) hHeld ?_ ?_
                                    rotate_left
                                    · rintro w' ⟨s0, s1, s2, s3, s4, s5, s6, s7, s8, s9, s10⟩
                                      go_simp
                                      with_reducible rfl
                                    rotate_left
                                    · simp only [Act.put, List.setIfInBounds_toArray, List.set_cons_zero, List.set_cons_succ, i64_w, i32_w]
                                      rfl
                                    refine one_ (i := 9) (N := some 93) #[true, true, true, true, true, true, true, true, true, true, true, false, false, false] rfl rfl (one_of HT_.out (by kernel_rfl)) (by decide) (fun K hK => ?_)
                                    refine goes_ Try.func24 (by kernel_rfl) rfl #[.agg #[.bool ((rd_T35 y483 x10_3).f0), .int .i64 ((rd_T35 y483 x10_3).f1), .bool ((rd_T35 y483 x10_3).f2), .int .i64 ((rd_T35 y483 x10_3).f3), .slice A492_4 ((rd_T35 y483 x10_3).f4).length c492_4]] (by rfl) rfl rfl (by (try simp only [List.map_toArray, List.map_cons, List.map_nil]); first | done | rfl | (simp only [List.length_drop, List.length_take]; rfl)) ?_
                                    with_reducible refine (phaetonref06_Rank.calls k3 ((rd_T35 y483 x10_3).f0) ((rd_T35 y483 x10_3).f1) ((rd_T35 y483 x10_3).f2) ((rd_T35 y483 x10_3).f3) _ _ ((rd_T35 y483 x10_3).f4) t493 _ ?side1 ?side2 A58.out).mono ?_
                                    (case side1 => repeat (first | exact (by repeat (first | (with_reducible exact HR492_4.out) | (with_reducible refine Kd.C_alloc ?_ _) | (with_reducible refine Kd.C_drewN ?_ _) | (with_reducible refine Kd.C_drew ?_) | exact HR492_4.out)) | (with_reducible refine Kd.C_alloc ?_ _) | (with_reducible refine Kd.C_drewN ?_ _) | (with_reducible refine Kd.C_drew ?_)))
                                    (case side2 => exact HC492_4.out)
                                    rintro e w64 ⟨v494, rfl, ho0, hb⟩
                                    have HS5_ := (hb.cell (World.block_lt_of_cell? _ _ (hHeld.2.2.2.2.2.1))).trans (hHeld.2.2.2.2.2.1)
                                    have HS6_ := (hb.cell (World.block_lt_of_cell? _ _ (hHeld.2.2.2.2.2.2.1))).trans (hHeld.2.2.2.2.2.2.1)
                                    have HS7_ := (hb.cell (World.block_lt_of_cell? _ _ (hHeld.2.2.2.2.2.2.2.1))).trans (hHeld.2.2.2.2.2.2.2.1)
                                    have HS8_ := (hb.cell (World.block_lt_of_cell? _ _ (hHeld.2.2.2.2.2.2.2.2.1))).trans (hHeld.2.2.2.2.2.2.2.2.1)
                                    have HS9_ := (hb.cell (World.block_lt_of_cell? _ _ (hHeld.2.2.2.2.2.2.2.2.2.1))).trans (hHeld.2.2.2.2.2.2.2.2.2.1)
                                    have HS10_ := (hb.cell (World.block_lt_of_cell? _ _ (hHeld.2.2.2.2.2.2.2.2.2.2))).trans (hHeld.2.2.2.2.2.2.2.2.2.2)
                                    refine ⟨_, rfl, ?_⟩
                                    have n0_ := Aside0.mk (Kd.N_elder' (by (with_reducible repeat (first | apply Kd.N_alloc | apply Kd.N_drewN | apply Kd.N_drew)); exact HO_8.out) (Kd.R_base ho0) hb)
                                    have n1_ := Aside0.mk (Kd.R_elder' (by (with_reducible repeat (first | apply Kd.R_alloc | apply Kd.R_drewN | apply Kd.R_drew)); exact HO_9.out) (Kd.R_base ho0) hb)
                                    have n2_ := Aside0.mk (Kd.R_below (by (with_reducible repeat (first | apply Kd.R_alloc | apply Kd.R_drewN | apply Kd.R_drew)); exact HO_477004.out) hb)
                                    have n3_ := Aside0.mk (Kd.V_elder' (by (with_reducible repeat (first | apply Kd.V_alloc | apply Kd.V_drewN | apply Kd.V_drew)); exact HL492_4.out) (Kd.R_base ho0) hb)
                                    have n4_ := Aside0.mk (Kd.R_lower (Kd.R_new' ho0 (Kd.R_lt (by (with_reducible repeat (first | apply Kd.R_alloc | apply Kd.R_drewN | apply Kd.R_drew)); exact HO_9.out))) (below_size (by repeat (first | (with_reducible first | exact HB.out | apply below_alloc | apply pw_below_drewN | apply below_drew1 | refine below_set ?_ GE476.out) | exact HB.out))))
                                    have n5_ := Aside0.mk (blk_below (g := gb476) (o := .cells #[.bool t469, .int .i64 t470, .bool t471, .int .i64 t472, .slice Ao35 t473.length co35] 35 (0, 0)) (by (with_reducible repeat (first | refine blk_drewN ?_ _ | refine blk_drew ?_ | refine blk_alloc ?_ _)); exact BK476.out) hb)
                                    have n6_ := Aside0.mk (HW.C_carry HR492_4.out hb (by repeat (first | (with_reducible exact HR492_4.out) | (with_reducible refine Kd.C_alloc ?_ _) | (with_reducible refine Kd.C_drewN ?_ _) | (with_reducible refine Kd.C_drew ?_) | exact HR492_4.out)))
                                    have n7_ := Aside0.mk (below_step (by repeat (first | (with_reducible first | exact HB.out | apply below_alloc | apply pw_below_drewN | apply below_drew1 | refine below_set ?_ GE476.out) | exact HB.out)) hb)
                                    clear HO_8
                                    clear HO_9
                                    clear HO_477004
                                    clear HL492_4
                                    clear BK476
                                    clear HR492_4
                                    clear HB
                                    have HO_8 := n0_
                                    have HO_9 := n1_
                                    have HO_477004 := n2_
                                    have HL492_4 := n3_
                                    have HO495 := n4_
                                    have BK476 := n5_
                                    have HR492_4 := n6_
                                    have HB := n7_
                                    clear n0_ n1_ n2_ n3_ n4_ n5_ n6_ n7_
                                    (try clear hb)
                                    (try clear hb2)
                                    (try clear hk)
                                    (try clear hi)
                                    (try clear ho0)
                                    refine hK.out _ _ ⟨(blk_cell BK476.out 0).trans rfl, (blk_cell BK476.out 1).trans rfl, (blk_cell BK476.out 2).trans rfl, (blk_cell BK476.out 3).trans rfl, (blk_cell BK476.out 4).trans rfl, HS5_, HS6_, HS7_, HS8_, HS9_, HS10_⟩ (fun hHeld => ?_)
                                    clear hK K
                                    refine norm_ (a' := ?_) ?_ ?_
                                    rotate_left
                                    · show Act.put _ (some 93) _ = _
                                      simp only [Act.put, List.setIfInBounds_toArray, List.set_cons_zero, List.set_cons_succ, i64_w, i32_w]
                                      rfl
                                    refine one_ (i := 11) (N := some 95) #[true, true, true, true, true, true, true, true, true, true, true, true, false, false] rfl rfl (one_of HT_.out (by kernel_rfl)) (by decide) (fun K hK => ?_)
                                    refine goes_ Try.func24 (by kernel_rfl) rfl #[.agg #[.bool t469, .int .i64 t470, .bool t471, .int .i64 t472, .slice Ao35 t473.length co35]] (by rfl) rfl rfl (by (try simp only [List.map_toArray, List.map_cons, List.map_nil]); first | done | rfl | (simp only [List.length_drop, List.length_take]; rfl)) ?_
                                    with_reducible refine (phaetonref06_Rank.calls k3 t469 t470 t471 t472 _ _ t473 t496 _ ?side1 ?side2 A59.out).mono ?_
                                    (case side1 => repeat (first | exact (Kd.R_reads' HO_477004.out).2.2 | (with_reducible refine Kd.C_alloc ?_ _) | (with_reducible refine Kd.C_drewN ?_ _) | (with_reducible refine Kd.C_drew ?_)))
                                    (case side2 => exact (Kd.R_reads' HO_477004.out).2.1)
                                    rintro e w65 ⟨v497, rfl, ho0, hb⟩
                                    have HS5_ := (hb.cell (World.block_lt_of_cell? _ _ (hHeld.2.2.2.2.2.1))).trans (hHeld.2.2.2.2.2.1)
                                    have HS6_ := (hb.cell (World.block_lt_of_cell? _ _ (hHeld.2.2.2.2.2.2.1))).trans (hHeld.2.2.2.2.2.2.1)
                                    have HS7_ := (hb.cell (World.block_lt_of_cell? _ _ (hHeld.2.2.2.2.2.2.2.1))).trans (hHeld.2.2.2.2.2.2.2.1)
                                    have HS8_ := (hb.cell (World.block_lt_of_cell? _ _ (hHeld.2.2.2.2.2.2.2.2.1))).trans (hHeld.2.2.2.2.2.2.2.2.1)
                                    have HS9_ := (hb.cell (World.block_lt_of_cell? _ _ (hHeld.2.2.2.2.2.2.2.2.2.1))).trans (hHeld.2.2.2.2.2.2.2.2.2.1)
                                    have HS10_ := (hb.cell (World.block_lt_of_cell? _ _ (hHeld.2.2.2.2.2.2.2.2.2.2))).trans (hHeld.2.2.2.2.2.2.2.2.2.2)
                                    refine ⟨_, rfl, ?_⟩
                                    have n0_ := Aside0.mk (Kd.N_elder' (by (with_reducible repeat (first | apply Kd.N_alloc | apply Kd.N_drewN | apply Kd.N_drew)); exact HO_8.out) (Kd.R_base ho0) hb)
                                    have n1_ := Aside0.mk (Kd.R_elder' (by (with_reducible repeat (first | apply Kd.R_alloc | apply Kd.R_drewN | apply Kd.R_drew)); exact HO_9.out) (Kd.R_base ho0) hb)
                                    have n2_ := Aside0.mk (Kd.R_below (by (with_reducible repeat (first | apply Kd.R_alloc | apply Kd.R_drewN | apply Kd.R_drew)); exact HO_477004.out) hb)
                                    have n3_ := Aside0.mk (Kd.V_elder' (by (with_reducible repeat (first | apply Kd.V_alloc | apply Kd.V_drewN | apply Kd.V_drew)); exact HL492_4.out) (Kd.R_base ho0) hb)
                                    have n4_ := Aside0.mk (Kd.R_elder' (by (with_reducible repeat (first | apply Kd.R_alloc | apply Kd.R_drewN | apply Kd.R_drew)); exact HO495.out) (Kd.R_base ho0) hb)
                                    have n5_ := Aside0.mk (Kd.R_lower (Kd.R_new' (Kd.R_new' ho0 (Kd.R_lt (by (with_reducible repeat (first | apply Kd.R_alloc | apply Kd.R_drewN | apply Kd.R_drew)); exact HO_9.out))) (Kd.R_lt (by (with_reducible repeat (first | apply Kd.R_alloc | apply Kd.R_drewN | apply Kd.R_drew)); exact HO495.out))) (below_size (by repeat (first | (with_reducible first | exact HB.out | apply below_alloc | apply pw_below_drewN | apply below_drew1 | refine below_set ?_ GE476.out) | exact HB.out))))
                                    have n6_ := Aside0.mk (blk_below (g := gb476) (o := .cells #[.bool t469, .int .i64 t470, .bool t471, .int .i64 t472, .slice Ao35 t473.length co35] 35 (0, 0)) (by (with_reducible repeat (first | refine blk_drewN ?_ _ | refine blk_drew ?_ | refine blk_alloc ?_ _)); exact BK476.out) hb)
                                    have n7_ := Aside0.mk (HW.C_carry HR492_4.out hb (by repeat (first | (with_reducible exact HR492_4.out) | (with_reducible refine Kd.C_alloc ?_ _) | (with_reducible refine Kd.C_drewN ?_ _) | (with_reducible refine Kd.C_drew ?_) | exact HR492_4.out)))
                                    have n8_ := Aside0.mk (below_step (by repeat (first | (with_reducible first | exact HB.out | apply below_alloc | apply pw_below_drewN | apply below_drew1 | refine below_set ?_ GE476.out) | exact HB.out)) hb)
                                    clear HO_8
                                    clear HO_9
                                    clear HO_477004
                                    clear HL492_4
                                    clear HO495
                                    clear BK476
                                    clear HR492_4
                                    clear HB
                                    have HO_8 := n0_
                                    have HO_9 := n1_
                                    have HO_477004 := n2_
                                    have HL492_4 := n3_
                                    have HO495 := n4_
                                    have HO498 := n5_
                                    have BK476 := n6_
                                    have HR492_4 := n7_
                                    have HB := n8_
                                    clear n0_ n1_ n2_ n3_ n4_ n5_ n6_ n7_ n8_
                                    (try clear hb)
                                    (try clear hb2)
                                    (try clear hk)
                                    (try clear hi)
                                    (try clear ho0)
                                    obtain ⟨Ao66, co66, eo66⟩ := Kd.R_slice HO495.out
                                    (first | subst eo66 | (injection eo66 with f1_ f2_ f3_; have f4_ := f1_.symm; have f5_ := f3_.symm; clear f1_ f2_ f3_; subst f4_; subst f5_))
                                    obtain ⟨Ao67, co67, eo67⟩ := Kd.R_slice HO498.out
                                    (first | subst eo67 | (injection eo67 with f1_ f2_ f3_; have f4_ := f1_.symm; have f5_ := f3_.symm; clear f1_ f2_ f3_; subst f4_; subst f5_))
                                    refine hK.out _ _ ⟨(blk_cell BK476.out 0).trans rfl, (blk_cell BK476.out 1).trans rfl, (blk_cell BK476.out 2).trans rfl, (blk_cell BK476.out 3).trans rfl, (blk_cell BK476.out 4).trans rfl, HS5_, HS6_, HS7_, HS8_, HS9_, HS10_⟩ (fun hHeld => ?_)
                                    clear hK K
                                    refine norm_ (a' := ?_) ?_ ?_
                                    rotate_left
                                    · show Act.put _ (some 95) _ = _
                                      simp only [Act.put, List.setIfInBounds_toArray, List.set_cons_zero, List.set_cons_succ, i64_w, i32_w]
                                      rfl
                                    refine one_ (i := 12) (N := some 96) #[true, true, true, true, true, true, true, true, true, true, true, true, true, false] rfl rfl (one_of HT_.out (by kernel_rfl)) (by decide) (fun K hK => ?_)
                                    refine goes_ Try.func16 (by kernel_rfl) rfl #[.slice Ao66 t493.length co66, .slice Ao67 t496.length co67] (by rfl) rfl rfl (by (try simp only [List.map_toArray, List.map_cons, List.map_nil]); first | done | rfl | (simp only [List.length_drop, List.length_take]; rfl)) ?_
                                    with_reducible refine (phaetonref03_Ints.calls k3 _ _ t493 _ _ t496 t499 _ ?side1 ?side2 ?side3 ?side4 A60.out).mono ?_
                                    (case side1 => repeat (first | exact (Kd.R_reads' HO495.out).2.2 | (with_reducible refine Kd.C_alloc ?_ _) | (with_reducible refine Kd.C_drewN ?_ _) | (with_reducible refine Kd.C_drew ?_)))
                                    (case side2 => exact (Kd.R_reads' HO495.out).2.1)
                                    (case side3 => repeat (first | exact (Kd.R_reads' HO498.out).2.2 | (with_reducible refine Kd.C_alloc ?_ _) | (with_reducible refine Kd.C_drewN ?_ _) | (with_reducible refine Kd.C_drew ?_)))
                                    (case side4 => exact (Kd.R_reads' HO498.out).2.1)
                                    rintro e w' ⟨rfl, ⟨nd, rfl⟩⟩
                                    refine ⟨_, rfl, ?_⟩
                                    refine hK.out _ _ ⟨(blk_cell BK476.out 0).trans rfl, (blk_cell BK476.out 1).trans rfl, (blk_cell BK476.out 2).trans rfl, (blk_cell BK476.out 3).trans rfl, (blk_cell BK476.out 4).trans rfl, hHeld.2.2.2.2.2.1, hHeld.2.2.2.2.2.2.1, hHeld.2.2.2.2.2.2.2.1, hHeld.2.2.2.2.2.2.2.2.1, hHeld.2.2.2.2.2.2.2.2.2.1, hHeld.2.2.2.2.2.2.2.2.2.2⟩ (fun hHeld => ?_)
                                    clear hK K
                                    refine norm_ (a' := ?_) ?_ ?_
                                    rotate_left
                                    · show Act.put _ (some 96) _ = _
                                      simp only [Act.put, List.setIfInBounds_toArray, List.set_cons_zero, List.set_cons_succ, i64_w, i32_w]
                                      rfl
                                    refine pure_ (i := 13) (N := some 97) (v := ?_) (a' := ?_) #[true, true, true, true, true, true, true, true, true, true, true, true, true, true] rfl rfl (any_of HT_.out (by kernel_rfl)) (fun _ _ _ h => h) (Or.inl ⟨by rfl, ?_⟩) ?_ ?_
                                    rotate_left
                                    · intro w'
                                      go_simp
                                      with_reducible rfl
                                    rotate_left
                                    · simp only [Act.put, List.setIfInBounds_toArray, List.set_cons_zero, List.set_cons_succ, i64_w, i32_w]
                                      rfl
                                    refine done_ (done_of HT_.out (by kernel_rfl)) ?_
                                    try go_wp2
                                    go_roundg k3
                                    case measure => have := HJ12.out; have := HJ25.out; have := HK3.out; omega
                                    case rel => exact ⟨(wrap64 (x10_3 + 1)), (by first | rfl | (simp; done) | (simp [*]; done)), H', ⟨by have := HJ12.out; have := HJ25.out; have := HK3.out; omega⟩, ⟨by (with_reducible repeat (first | apply Kd.N_alloc | apply Kd.N_drewN | apply Kd.N_drew)); exact Kd.N_mono HO_8.out (fun _ hk => ⟨hk.1.1.1, hk.1.1.2⟩)⟩, ⟨by (with_reducible repeat (first | apply Kd.R_alloc | apply Kd.R_drewN | apply Kd.R_drew)); exact Kd.R_mono HO_9.out (fun _ hk => trivial)⟩, ⟨by (with_reducible repeat (first | apply Kd.R_alloc | apply Kd.R_drewN | apply Kd.R_drew)); exact HO_477004.out⟩, ⟨by (with_reducible repeat (first | refine blk_drewN ?_ _ | refine blk_drew ?_ | refine blk_alloc ?_ _)); exact BK476.out⟩, ⟨by repeat (first | (with_reducible first | exact HB.out | apply below_alloc | apply pw_below_drewN | apply below_drew1 | refine below_set ?_ GE476.out) | exact HB.out)⟩⟩
                                · rw [if_neg c57] at H
                                  exact absurd H (by simp)
                              · rw [if_neg c56] at H
                                exact absurd H (by simp)
                            · rw [if_neg c55] at H
                              have c55b0 : decide (x10_3 < (y483.length : Int)) = false := decide_eq_false c55
                              clear c55
                              by_cases c68 : t461 = true
                              · subst c68
                                have H1 : (some true) = some r := by rw [if_pos rfl] at H; exact H
                                clear H
                                have H := H1
                                clear H1
                                obtain rfl := Option.some.inj H
                                go_wp2
                                go_ret
                                exact ⟨by first | rfl | (simp [errW_none, errW_some] <;> rfl) | (simp [*, errW_none, errW_some] <;> rfl), by repeat (first | (with_reducible first | exact HB.out | apply below_alloc | apply pw_below_drewN | apply below_drew1 | refine below_set ?_ GE476.out) | exact HB.out)⟩
                              · replace c68 := Bool.eq_false_iff.mpr c68
                                subst c68
                                have H1 : (none) = some r := by rw [if_neg (show ¬ (false = true) by decide)] at H; exact H
                                clear H
                                have H := H1
                                clear H1
                                exact absurd H (by simp)
                · rw [if_neg c24] at H
                  exact absurd H (by simp)
              · rw [if_neg c23] at H
                exact absurd H (by simp)
            · rw [if_neg c21] at H
              exact absurd H (by simp)
          · rw [if_neg c20] at H
            exact absurd H (by simp)

/-- THE ONE PURE STATEMENT of phaetonlaw06_ArbTwins. -/
def phaetonlaw06_ArbTwins.Pure : Prop := ∀ (l0 : List (S35)) (l1 : List Int), l0.length ≤ maxLen → (∀ x ∈ l0, (fun (x : S35) => (fun (_ : Bool) => True) x.f0 ∧ ((fun (x : Int) => (Lit.int .i64 x).wf = true) x.f1 ∧ ((fun (_ : Bool) => True) x.f2 ∧ ((fun (x : Int) => (Lit.int .i64 x).wf = true) x.f3 ∧ ((fun (l : List Int) => ∀ x ∈ l, (fun (x : Int) => (Lit.int .u8 x).wf = true) x) x.f4))))) x) → l1.length ≤ maxLen → l1.length * 1 ≤ 140737488351232 → (∀ x ∈ l1, (fun (x : Int) => (Lit.int .u8 x).wf = true) x) → ∃ k, phaetonlaw06_ArbTwins.f k l0 l1 = some true
theorem phaetonlaw06_ArbTwins.walk (P : phaetonlaw06_ArbTwins.Pure) (A0 : Option Addr) (c0 : Nat) (l0 : List (S35)) (A1 : Option Addr) (c1 : Nat) (l1 : List Int) (w : World) (hw0 : ∀ x ∈ l0, (fun (x : S35) => (fun (_ : Bool) => True) x.f0 ∧ ((fun (x : Int) => (Lit.int .i64 x).wf = true) x.f1 ∧ ((fun (_ : Bool) => True) x.f2 ∧ ((fun (x : Int) => (Lit.int .i64 x).wf = true) x.f3 ∧ ((fun (l : List Int) => ∀ x ∈ l, (fun (x : Int) => (Lit.int .u8 x).wf = true) x) x.f4))))) x) (hr0 : Kd.C k35 w A0 l0.length l0) (hc0 : l0.length ≤ c0) (y1 : l1.length * 1 ≤ 140737488351232) (hw1 : ∀ x ∈ l1, (fun (x : Int) => (Lit.int .u8 x).wf = true) x) (hr1 : Kd.C (Kd.int .u8) w A1 l1.length l1) (hc1 : l1.length ≤ c1) :
    Calls Try.prog 8 #[.slice A0 l0.length c0, .slice A1 l1.length c1] w fun e w' => e = .returned (.bool true) ∧ Below w.heap.size w w' := by
  obtain ⟨k, h⟩ := P l0 l1 (by have := hr0.2.1; unfold maxLen; omega) hw0 (by have := hr1.2.1; unfold maxLen; omega) y1 hw1
  refine (phaetonlaw06_ArbTwins.calls k _ _ l0 _ _ l1 true w hr0 hc0 hr1 hc1 h).mono ?_
  rintro e w' ⟨rfl, hd⟩
  exact ⟨rfl, hd⟩

end Go.Proofs.Ytcdbndjicjghgaa.Px

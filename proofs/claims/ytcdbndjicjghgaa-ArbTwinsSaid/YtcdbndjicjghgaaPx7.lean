-- Written by myprint.py, a program of this session's, over the kit's print.py; not a text of print.sh's own.
import Derived.Test.YtcdbndjicjghgaaPx0
import Derived.Test.YtcdbndjicjghgaaPx5
import Derived.Test.YtcdbndjicjghgaaPx6
namespace Go.Proofs.Ytcdbndjicjghgaa.Px
open Go.RowKit Go.Proofs.YtcdbndjicjghgaaW.PrintWords Go.Proofs.YtcdbndjicjghgaaW.PrintLast Go.Proofs.YtcdbndjicjghgaaW.PrintMore
attribute [local go_sem] max2_int min2_int max_two min_two max_three min_three max_four min_four   -- for this text's walks alone
set_option linter.unusedVariables false
set_option linter.unusedSimpArgs false

/-! ### phaetonref06_Lost: function 18 -/
mutual
def phaetonref06_Lost.l0 : Nat → List (S35) → List Int → Int → Option (List Int)
  | 0, _, _, _ => none
  | k + 1, x0, x3, x4 => if x4 < (x0.length : Int) then ((phaetonref06_Win.f k x0).bind fun t249 => (if 0 ≤ t249 then (if t249 < (x0.length : Int) then ((phaetonref06_Rank.f k ((rd_T35 x0 t249).f0) ((rd_T35 x0 t249).f1) ((rd_T35 x0 t249).f2) ((rd_T35 x0 t249).f3) ((rd_T35 x0 t249).f4)).bind fun t251 => (if 0 ≤ x4 then ((phaetonref06_Rank.f k ((rd_T35 x0 x4).f0) ((rd_T35 x0 x4).f1) ((rd_T35 x0 x4).f2) ((rd_T35 x0 x4).f3) ((rd_T35 x0 x4).f4)).bind fun t255 => (phaetonref06_Lost.l1 k x0 x3 x4 t251 t255 (-1) 0)) else (none))) else (none)) else (none))) else (some x3)
def phaetonref06_Lost.l1 : Nat → List (S35) → List Int → Int → List Int → List Int → Int → Int → Option (List Int)
  | 0, _, _, _, _, _, _, _ => none
  | k + 1, x0, x3, x4, x5, x6, x7, x8 => if x8 < (x5.length : Int) then (if x8 < (x6.length : Int) then (phaetonref06_Lost.j2 k x0 x3 x4 x5 x6 x7 x8 (decide (x7 < 0))) else (phaetonref06_Lost.j2 k x0 x3 x4 x5 x6 x7 x8 false)) else (phaetonref06_Lost.j2 k x0 x3 x4 x5 x6 x7 x8 false)
def phaetonref06_Lost.j2 : Nat → List (S35) → List Int → Int → List Int → List Int → Int → Int → Bool → Option (List Int)
  | 0, _, _, _, _, _, _, _, _ => none
  | k + 1, x0, x3, x4, x5, x6, x7, x8, x40 => if x40 = true then (if 0 ≤ x8 then (if x8 < (x5.length : Int) then (if x8 < (x6.length : Int) then (if (rd x5 x8) = (rd x6 x8) then (phaetonref06_Lost.l1 k x0 x3 x4 x5 x6 x7 (wrap64 (x8 + 1))) else (phaetonref06_Lost.l1 k x0 x3 x4 x5 x6 x8 (wrap64 (x8 + 1)))) else (none)) else (none)) else (none)) else (if x3.length < 17592186044416 then (phaetonref06_Lost.l0 k x0 (x3 ++ [x7]) (wrap64 (x4 + 1))) else (none))
end
def phaetonref06_Lost.f (k : Nat) (l0 : List (S35)) : Option (List Int) := phaetonref06_Lost.l0 k l0 (([] : List Int)) 0
theorem phaetonref06_Lost.mono_l : ∀ k, (∀ y0 y1 y2, LeO (phaetonref06_Lost.l0 k y0 y1 y2) (phaetonref06_Lost.l0 (k + 1) y0 y1 y2)) ∧ (∀ y0 y1 y2 y3 y4 y5 y6, LeO (phaetonref06_Lost.l1 k y0 y1 y2 y3 y4 y5 y6) (phaetonref06_Lost.l1 (k + 1) y0 y1 y2 y3 y4 y5 y6)) ∧ (∀ y0 y1 y2 y3 y4 y5 y6 y7, LeO (phaetonref06_Lost.j2 k y0 y1 y2 y3 y4 y5 y6 y7) (phaetonref06_Lost.j2 (k + 1) y0 y1 y2 y3 y4 y5 y6 y7))
  | 0 => ⟨fun _ _ _ r h => by simp [phaetonref06_Lost.l0] at h, fun _ _ _ _ _ _ _ r h => by simp [phaetonref06_Lost.l1] at h, fun _ _ _ _ _ _ _ _ r h => by simp [phaetonref06_Lost.j2] at h⟩
  | k + 1 => by
    obtain ⟨ih0, ih1, ih2⟩ := phaetonref06_Lost.mono_l k
    refine ⟨?_, ?_, ?_⟩
    · intro y0 y1 y2
      unfold phaetonref06_Lost.l0
      repeat' first
      | (with_reducible exact ih0 _ _ _)
      | (with_reducible exact ih1 _ _ _ _ _ _ _)
      | (with_reducible exact ih2 _ _ _ _ _ _ _ _)
      | (with_reducible exact phaetonref06_Rank.mono _ _ _ _ _ _)
      | (with_reducible exact phaetonref06_Win.mono _ _)
      | (with_reducible exact LeO.refl _)
      | (with_reducible exact LeO.none _)
      | (with_reducible refine LeO.ite ?_ ?_)
      | (with_reducible refine LeO.bind ?_ (fun _ => ?_))
      | exact ih0 _ _ _
      | exact ih1 _ _ _ _ _ _ _
      | exact ih2 _ _ _ _ _ _ _ _
      | exact phaetonref06_Rank.mono _ _ _ _ _ _
      | exact phaetonref06_Win.mono _ _
      | exact LeO.none _
      | refine LeO.ite ?_ ?_
      | refine LeO.bind ?_ (fun _ => ?_)
    · intro y0 y1 y2 y3 y4 y5 y6
      unfold phaetonref06_Lost.l1
      repeat' first
      | (with_reducible exact ih0 _ _ _)
      | (with_reducible exact ih1 _ _ _ _ _ _ _)
      | (with_reducible exact ih2 _ _ _ _ _ _ _ _)
      | (with_reducible exact phaetonref06_Rank.mono _ _ _ _ _ _)
      | (with_reducible exact phaetonref06_Win.mono _ _)
      | (with_reducible exact LeO.refl _)
      | (with_reducible exact LeO.none _)
      | (with_reducible refine LeO.ite ?_ ?_)
      | (with_reducible refine LeO.bind ?_ (fun _ => ?_))
      | exact ih0 _ _ _
      | exact ih1 _ _ _ _ _ _ _
      | exact ih2 _ _ _ _ _ _ _ _
      | exact phaetonref06_Rank.mono _ _ _ _ _ _
      | exact phaetonref06_Win.mono _ _
      | exact LeO.none _
      | refine LeO.ite ?_ ?_
      | refine LeO.bind ?_ (fun _ => ?_)
    · intro y0 y1 y2 y3 y4 y5 y6 y7
      unfold phaetonref06_Lost.j2
      repeat' first
      | (with_reducible exact ih0 _ _ _)
      | (with_reducible exact ih1 _ _ _ _ _ _ _)
      | (with_reducible exact ih2 _ _ _ _ _ _ _ _)
      | (with_reducible exact phaetonref06_Rank.mono _ _ _ _ _ _)
      | (with_reducible exact phaetonref06_Win.mono _ _)
      | (with_reducible exact LeO.refl _)
      | (with_reducible exact LeO.none _)
      | (with_reducible refine LeO.ite ?_ ?_)
      | (with_reducible refine LeO.bind ?_ (fun _ => ?_))
      | exact ih0 _ _ _
      | exact ih1 _ _ _ _ _ _ _
      | exact ih2 _ _ _ _ _ _ _ _
      | exact phaetonref06_Rank.mono _ _ _ _ _ _
      | exact phaetonref06_Win.mono _ _
      | exact LeO.none _
      | refine LeO.ite ?_ ?_
      | refine LeO.bind ?_ (fun _ => ?_)
theorem phaetonref06_Lost.mono : ∀ a0 k, LeO (phaetonref06_Lost.f k a0) (phaetonref06_Lost.f (k + 1) a0) := by
  intro a0 k
  obtain ⟨ih0, ih1, ih2⟩ := phaetonref06_Lost.mono_l k
  unfold phaetonref06_Lost.f
  repeat' first
      | (with_reducible exact ih0 _ _ _)
      | (with_reducible exact ih1 _ _ _ _ _ _ _)
      | (with_reducible exact ih2 _ _ _ _ _ _ _ _)
      | (with_reducible exact phaetonref06_Rank.mono _ _ _ _ _ _)
      | (with_reducible exact phaetonref06_Win.mono _ _)
      | (with_reducible exact LeO.refl _)
      | (with_reducible exact LeO.none _)
      | (with_reducible refine LeO.ite ?_ ?_)
      | (with_reducible refine LeO.bind ?_ (fun _ => ?_))
      | exact ih0 _ _ _
      | exact ih1 _ _ _ _ _ _ _
      | exact ih2 _ _ _ _ _ _ _ _
      | exact phaetonref06_Rank.mono _ _ _ _ _ _
      | exact phaetonref06_Win.mono _ _
      | exact LeO.none _
      | refine LeO.ite ?_ ?_
      | refine LeO.bind ?_ (fun _ => ?_)
def phaetonref06_Lost.T5 : Bool × List (List Nat × List Nat) := (true, [([], []), ([], []), ([1], [1]), ([0, 2], [0, 2]), ([3], [3]), ([4, 2], [4]), ([], []), ([], []), ([6, 7], [6, 7]), ([8], [8]), ([9, 5], [9]), ([5, 10, 0, 1, 2, 3, 4, 5], [5]), ([10, 11, 0, 1, 2, 3, 4, 5, 6, 7, 8, 9, 10, 11], [10]), ([12, 0, 1, 2, 3, 4, 5, 6, 7, 8, 9, 10, 11, 12], [])])
def phaetonref06_Lost.B5 : List Nat := [0, 0, 2, 7, 15, 31, 0, 0, 192, 448, 1023, 2047, 4095, 8191]
theorem phaetonref06_Lost.tab5 : rtab .any (opsOf Try.f18 5) = phaetonref06_Lost.T5 := by kernel_rfl
theorem phaetonref06_Lost.bits5 : waitsOk phaetonref06_Lost.T5.2 phaetonref06_Lost.B5 = true := by kernel_rfl
def phaetonref06_Lost.T9 : Bool × List (List Nat × List Nat) := (true, [([], []), ([], []), ([0, 1], [0, 1]), ([2], [2]), ([], []), ([], []), ([4, 5], [4, 5]), ([6], [6]), ([3, 7], [3, 7])])
def phaetonref06_Lost.B9 : List Nat := [0, 0, 3, 7, 0, 0, 48, 112, 255]
theorem phaetonref06_Lost.tab9 : rtab .any (opsOf Try.f18 9) = phaetonref06_Lost.T9 := by kernel_rfl
theorem phaetonref06_Lost.bits9 : waitsOk phaetonref06_Lost.T9.2 phaetonref06_Lost.B9 = true := by kernel_rfl
set_option maxHeartbeats 8000000 in
set_option maxRecDepth 100000 in
theorem phaetonref06_Lost.calls (k : Nat) (A0 : Option Addr) (c0 : Nat) (l0 : List (S35)) (r : List Int) (w : World) (hr0 : Kd.C k35 w A0 l0.length l0) (hc0 : l0.length ≤ c0) (h : phaetonref06_Lost.f k l0 = some r) :
    Calls Try.prog 18 #[.slice A0 l0.length c0] w fun e w' => ∃ v0_ : Value, e = .returned (v0_) ∧ Kd.R (Kd.int .i64) 3 w' w.heap.size (fun _ => True) v0_ r ∧ Below w.heap.size w w' := by
  have hu35 := Try.underlying35
  have HR0 := Aside0.mk hr0
  have HC0 := Aside0.mk hc0
  clear hr0 hc0
  have HB := Aside0.mk (Below.refl w.heap.size w)
  have H : (phaetonref06_Lost.l0 k l0 (([] : List Int)) 0) = some r := h
  clear h
  obtain ⟨y246, hy246⟩ : ∃ y_ : List Int, y_ = (([] : List Int)) := ⟨_, rfl⟩
  replace H : (phaetonref06_Lost.l0 k l0 y246 0) = some r := by first | (rw [hy246]; with_reducible exact H) | (have H2_ := (Option.bind_some _ _).symm.trans H; rw [hy246]; with_reducible exact H2_) | (have H2_ := (Option.bind_some _ _).symm.trans H; with_reducible exact H2_) | with_reducible exact H | (rw [hy246]; exact H) | exact H
  have Ny246 := Aside0.mk hy246
  clear hy246
  have H' := Aside0.mk H
  clear H
  go_enter Try.func18, Try.ntmps18
  go_wp2_with (first | ((with_reducible refine gate_dst (N := 9) rfl ?_); (try (refine gate_guard (by rfl) ?_; dsimp only)); refine Kd.R_lit (Kd.int .i64) _ 3 ?hg (N := 9) ?hd (xs := ([] : List Int)) (inner := []) (ok := fun _ => True) (okp := fun _ => True) ?hr ?hp (fun _ hk => hk) trivial (Below.refl _ _) (Nat.le_refl _) (by simp) ?_; (case hd => rfl); (case hg => rfl); (case hr => first | (go_simp; done) | (go_simp; rfl)); (case hp => exact (Reps.none _ _)); intro v247 w2 ho3 hb hg_ hnew_; clear hg_ hnew_; (first | rw [← Ny246.out] at ho3 | (simp only [Int.reduceToNat] at ho3; rw [← Ny246.out] at ho3)); have n0_ := Aside0.mk (Kd.R_lower ho3 (below_size (by repeat (first | (with_reducible first | exact HB.out | apply below_alloc | apply pw_below_drewN | apply below_drew1) | exact HB.out)))); have n1_ := Aside0.mk (below_step (by repeat (first | (with_reducible first | exact HB.out | apply below_alloc | apply pw_below_drewN | apply below_drew1) | exact HB.out)) hb); clear HB; have HO248 := n0_; have HB := n1_; clear n0_ n1_; clear hb ho3))
  go_loopg [3, 4] k (fun kq v3 v4 w' => ∃ (x3_1 : List Int) (x4_1 : Int), v4 = .int .i64 x4_1 ∧ Aside0 (phaetonref06_Lost.l0 kq l0 x3_1 x4_1 = some r) ∧ Aside0 (kq ≤ k) ∧ Aside0 (Kd.R (Kd.int .i64) 3 w' w.heap.size (fun _ => True) v3 x3_1) ∧ Aside0 (Below w.heap.size w w'))
  case atStart => exact ⟨(y246), (0), (by first | rfl | (simp; done) | (simp [*]; done)), H', ⟨Nat.le_refl _⟩, ⟨by (with_reducible repeat (first | apply Kd.R_alloc | apply Kd.R_drewN | apply Kd.R_drew)); exact HO248.out⟩, ⟨by repeat (first | (with_reducible first | exact HB.out | apply below_alloc | apply pw_below_drewN | apply below_drew1) | exact HB.out)⟩⟩
  case round =>
    clear H'
    try clear c1
    try clear p2
    obtain ⟨x3_1, x4_1, rfl, HA, HK1, HO_3, HB⟩ := hrel
    cases gk with
    | zero => exact absurd HA.out (by simp [phaetonref06_Lost.l0])
    | succ k1 =>
      have H := HA.out
      clear HA
      simp only [phaetonref06_Lost.l0] at H
      by_cases c4 : x4_1 < (l0.length : Int)
      · rw [if_pos c4] at H
        have c4b0 : decide (x4_1 < (l0.length : Int)) = true := decide_eq_true c4
        clear c4
        replace H := Option.bind_eq_some_iff.mp H
        obtain ⟨t249, A50, H⟩ := H
        replace H : (if 0 ≤ t249 then (if t249 < (l0.length : Int) then ((phaetonref06_Rank.f k1 ((rd_T35 l0 t249).f0) ((rd_T35 l0 t249).f1) ((rd_T35 l0 t249).f2) ((rd_T35 l0 t249).f3) ((rd_T35 l0 t249).f4)).bind fun t251 => (if 0 ≤ x4_1 then ((phaetonref06_Rank.f k1 ((rd_T35 l0 x4_1).f0) ((rd_T35 l0 x4_1).f1) ((rd_T35 l0 x4_1).f2) ((rd_T35 l0 x4_1).f3) ((rd_T35 l0 x4_1).f4)).bind fun t255 => (phaetonref06_Lost.l1 k1 l0 x3_1 x4_1 t251 t255 (-1) 0)) else (none))) else (none)) else (none)) = some r := H
        have A5 := Aside0.mk A50
        clear A50
        by_cases c6 : 0 ≤ t249
        · rw [if_pos c6] at H
          have c6b0 : decide (0 ≤ t249) = true := decide_eq_true c6
          clear c6
          by_cases c7 : t249 < (l0.length : Int)
          · rw [if_pos c7] at H
            have c7b0 : decide (t249 < (l0.length : Int)) = true := decide_eq_true c7
            clear c7
            replace H := Option.bind_eq_some_iff.mp H
            obtain ⟨t251, A80, H⟩ := H
            replace H : (if 0 ≤ x4_1 then ((phaetonref06_Rank.f k1 ((rd_T35 l0 x4_1).f0) ((rd_T35 l0 x4_1).f1) ((rd_T35 l0 x4_1).f2) ((rd_T35 l0 x4_1).f3) ((rd_T35 l0 x4_1).f4)).bind fun t255 => (phaetonref06_Lost.l1 k1 l0 x3_1 x4_1 t251 t255 (-1) 0)) else (none)) = some r := H
            have A8 := Aside0.mk A80
            clear A80
            by_cases c9 : 0 ≤ x4_1
            · rw [if_pos c9] at H
              have c9b0 : decide (0 ≤ x4_1) = true := decide_eq_true c9
              clear c9
              replace H := Option.bind_eq_some_iff.mp H
              obtain ⟨t255, A100, H⟩ := H
              replace H : (phaetonref06_Lost.l1 k1 l0 x3_1 x4_1 t251 t255 (-1) 0) = some r := H
              have A10 := Aside0.mk A100
              clear A100
              have H' := Aside0.mk H
              clear H
              try go_wp2
              have n0_ := Aside0.mk (Kd.R_drew HO_3.out)
              have n1_ := Aside0.mk (below_drew1 HB.out)
              clear HO_3
              clear HB
              have HO_3 := n0_
              have HB := n1_
              clear n0_ n1_
              have p254 : 0 ≤ (x4_1 : Int) := of_decide_eq_true (by first | (with_reducible assumption) | assumption)
              have q254 : x4_1 < (l0.length : Int) := of_decide_eq_true (by first | (with_reducible assumption) | assumption)
              obtain ⟨ad254, A254_4, c254_4, e254, hx254_0, hx254_1, hx254_2, hx254_3, hx254_4, hl254_4, hi254_4⟩ := at_T35 HR0.out x4_1 p254 q254
              have hw254_4 := hx254_4
              have hw254_3 := hx254_3
              have hw254_2 := hx254_2
              have hw254_1 := hx254_1
              have hw254_0 := hx254_0
              cases e254
              replace hx254_0 := (HB.out.cell (World.block_lt_of_cell? w _ hx254_0)).trans hx254_0
              replace hx254_1 := (HB.out.cell (World.block_lt_of_cell? w _ hx254_1)).trans hx254_1
              replace hx254_2 := (HB.out.cell (World.block_lt_of_cell? w _ hx254_2)).trans hx254_2
              replace hx254_3 := (HB.out.cell (World.block_lt_of_cell? w _ hx254_3)).trans hx254_3
              replace hx254_4 := (HB.out.cell (World.block_lt_of_cell? w _ hx254_4)).trans hx254_4
              have HR254_4 := Aside0.mk hi254_4
              have HC254_4 := Aside0.mk hl254_4
              clear hi254_4 hl254_4
              replace p254 := eq_true p254
              replace q254 := eq_true q254
              have p250 : 0 ≤ (t249 : Int) := of_decide_eq_true (by first | (with_reducible assumption) | assumption)
              have q250 : t249 < (l0.length : Int) := of_decide_eq_true (by first | (with_reducible assumption) | assumption)
              obtain ⟨ad250, A250_4, c250_4, e250, hx250_0, hx250_1, hx250_2, hx250_3, hx250_4, hl250_4, hi250_4⟩ := at_T35 HR0.out t249 p250 q250
              have hw250_4 := hx250_4
              have hw250_3 := hx250_3
              have hw250_2 := hx250_2
              have hw250_1 := hx250_1
              have hw250_0 := hx250_0
              obtain rfl : ad254 = ad250 := (by injection e250)
              replace hx250_0 := (HB.out.cell (World.block_lt_of_cell? w _ hx250_0)).trans hx250_0
              replace hx250_1 := (HB.out.cell (World.block_lt_of_cell? w _ hx250_1)).trans hx250_1
              replace hx250_2 := (HB.out.cell (World.block_lt_of_cell? w _ hx250_2)).trans hx250_2
              replace hx250_3 := (HB.out.cell (World.block_lt_of_cell? w _ hx250_3)).trans hx250_3
              replace hx250_4 := (HB.out.cell (World.block_lt_of_cell? w _ hx250_4)).trans hx250_4
              have HR250_4 := Aside0.mk hi250_4
              have HC250_4 := Aside0.mk hl250_4
              clear hi250_4 hl250_4
              replace p250 := eq_true p250
              replace q250 := eq_true q250
              refine start_ (n := 14) (S := fun w' => w'.cell? (ad254.add ((x4_1).toNat * 5)) = some (.bool ((rd_T35 l0 x4_1).f0)) ∧ w'.cell? ⟨(ad254.add ((x4_1).toNat * 5)).block, (ad254.add ((x4_1).toNat * 5)).off + 1, none⟩ = some (.int .i64 ((rd_T35 l0 x4_1).f1)) ∧ w'.cell? ⟨(ad254.add ((x4_1).toNat * 5)).block, (ad254.add ((x4_1).toNat * 5)).off + 2, none⟩ = some (.bool ((rd_T35 l0 x4_1).f2)) ∧ w'.cell? ⟨(ad254.add ((x4_1).toNat * 5)).block, (ad254.add ((x4_1).toNat * 5)).off + 3, none⟩ = some (.int .i64 ((rd_T35 l0 x4_1).f3)) ∧ w'.cell? ⟨(ad254.add ((x4_1).toNat * 5)).block, (ad254.add ((x4_1).toNat * 5)).off + 4, none⟩ = some (.slice A254_4 ((rd_T35 l0 x4_1).f4).length c254_4) ∧ w'.cell? (ad254.add ((t249).toNat * 5)) = some (.bool ((rd_T35 l0 t249).f0)) ∧ w'.cell? ⟨(ad254.add ((t249).toNat * 5)).block, (ad254.add ((t249).toNat * 5)).off + 1, none⟩ = some (.int .i64 ((rd_T35 l0 t249).f1)) ∧ w'.cell? ⟨(ad254.add ((t249).toNat * 5)).block, (ad254.add ((t249).toNat * 5)).off + 2, none⟩ = some (.bool ((rd_T35 l0 t249).f2)) ∧ w'.cell? ⟨(ad254.add ((t249).toNat * 5)).block, (ad254.add ((t249).toNat * 5)).off + 3, none⟩ = some (.int .i64 ((rd_T35 l0 t249).f3)) ∧ w'.cell? ⟨(ad254.add ((t249).toNat * 5)).block, (ad254.add ((t249).toNat * 5)).off + 4, none⟩ = some (.slice A250_4 ((rd_T35 l0 t249).f4).length c250_4)) (ds := []) #[false, false, false, false, false, false, false, false, false, false, false, false, false, false] (by kernel_rfl) rfl rfl ⟨((HB.out.cell (World.block_lt_of_cell? w _ hw254_0)).trans hw254_0), ((HB.out.cell (World.block_lt_of_cell? w _ hw254_1)).trans hw254_1), ((HB.out.cell (World.block_lt_of_cell? w _ hw254_2)).trans hw254_2), ((HB.out.cell (World.block_lt_of_cell? w _ hw254_3)).trans hw254_3), ((HB.out.cell (World.block_lt_of_cell? w _ hw254_4)).trans hw254_4), ((HB.out.cell (World.block_lt_of_cell? w _ hw250_0)).trans hw250_0), ((HB.out.cell (World.block_lt_of_cell? w _ hw250_1)).trans hw250_1), ((HB.out.cell (World.block_lt_of_cell? w _ hw250_2)).trans hw250_2), ((HB.out.cell (World.block_lt_of_cell? w _ hw250_3)).trans hw250_3), ((HB.out.cell (World.block_lt_of_cell? w _ hw250_4)).trans hw250_4)⟩ (fun hHeld => ?_); refine with_tabW phaetonref06_Lost.tab5 phaetonref06_Lost.bits5 (fun HT_ HW_ => ?_)
              generalize wr.drew = w11 at HO_3 HB HR250_4 HR254_4 hx250_0 hx250_1 hx250_2 hx250_3 hx250_4 hx254_0 hx254_1 hx254_2 hx254_3 hx254_4 hHeld ⊢
              refine pure_ (i := 0) (N := some 16) (v := ?_) (a' := ?_) #[true, false, false, false, false, false, false, false, false, false, false, false, false, false] rfl rfl (any_of HT_.out (by kernel_rfl)) (fun _ _ _ h => h) (Or.inl ⟨by rfl, ?_⟩) ?_ ?_
              rotate_left
              · intro w'
                go_simp
                with_reducible rfl
              rotate_left
              · simp only [Act.put, List.setIfInBounds_toArray, List.set_cons_zero, List.set_cons_succ, i64_w, i32_w]
                rfl
              refine pure_ (i := 1) (N := some 17) (v := ?_) (a' := ?_) #[true, true, false, false, false, false, false, false, false, false, false, false, false, false] rfl rfl (any_of HT_.out (by kernel_rfl)) (fun _ _ _ h => h) (Or.inl ⟨by rfl, ?_⟩) ?_ ?_
              rotate_left
              · intro w'
                go_simp
                with_reducible rfl
              rotate_left
              · simp only [Act.put, List.setIfInBounds_toArray, List.set_cons_zero, List.set_cons_succ, i64_w, i32_w]
                rfl
              refine pure_ (i := 6) (N := some 22) (v := ?_) (a' := ?_) #[true, true, false, false, false, false, true, false, false, false, false, false, false, false] rfl rfl (any_of HT_.out (by kernel_rfl)) (fun _ _ _ h => h) (Or.inl ⟨by rfl, ?_⟩) ?_ ?_
              rotate_left
              · intro w'
                go_simp
                with_reducible rfl
              rotate_left
              · simp only [Act.put, List.setIfInBounds_toArray, List.set_cons_zero, List.set_cons_succ, i64_w, i32_w]
                rfl
              refine pure_ (i := 7) (N := some 23) (v := ?_) (a' := ?_) #[true, true, false, false, false, false, true, true, false, false, false, false, false, false] rfl rfl (any_of HT_.out (by kernel_rfl)) (fun _ _ _ h => h) (Or.inl ⟨by rfl, ?_⟩) ?_ ?_
              rotate_left
              · intro w'
                go_simp
                with_reducible rfl
              rotate_left
              · simp only [Act.put, List.setIfInBounds_toArray, List.set_cons_zero, List.set_cons_succ, i64_w, i32_w]
                rfl
              refine pure_ (i := 8) (N := some 24) (v := ?_) (a' := ?_) #[true, true, false, false, false, false, true, true, true, false, false, false, false, false] rfl rfl (any_of HT_.out (by kernel_rfl)) (fun _ _ _ h => h) (Or.inl ⟨by rfl, ?_⟩) ?_ ?_
              rotate_left
              · intro w'
                go_simp
                with_reducible rfl
              rotate_left
              · simp only [Act.put, List.setIfInBounds_toArray, List.set_cons_zero, List.set_cons_succ, i64_w, i32_w]
                rfl
              refine take_ (i := 9) (N := some 25) (v := ?_) (a' := ?_) #[true, true, false, false, false, false, true, true, true, true, false, false, false, false] rfl rfl (take_ofW HT_.out HW_.out (by kernel_rfl)) (fun _ _ _ h => h) (Or.inl ⟨by rfl, ?_⟩) hHeld ?_ ?_
              rotate_left
              · rintro w' ⟨s0, s1, s2, s3, s4, s5, s6, s7, s8, s9⟩
                go_simp
                with_reducible rfl
              rotate_left
              · simp only [Act.put, List.setIfInBounds_toArray, List.set_cons_zero, List.set_cons_succ, i64_w, i32_w]
                rfl
              refine one_ (i := 2) (N := some 18) #[true, true, true, false, false, false, true, true, true, true, false, false, false, false] rfl rfl (one_of HT_.out (by kernel_rfl)) (by decide) (fun K hK => ?_)
              refine goes_ Try.func15 (by kernel_rfl) rfl #[.slice (some ad254) l0.length c0] (by rfl) rfl rfl (by (try simp only [List.map_toArray, List.map_cons, List.map_nil]); first | done | rfl | (simp only [List.length_drop, List.length_take]; rfl)) ?_
              with_reducible refine (phaetonref06_Win.calls k1 _ _ l0 t249 _ ?side1 ?side2 A5.out).mono ?_
              (case side1 => repeat (first | exact (Kd.C_below HR0.out HB.out) | (with_reducible refine Kd.C_alloc ?_ _) | (with_reducible refine Kd.C_drewN ?_ _) | (with_reducible refine Kd.C_drew ?_)))
              (case side2 => exact HC0.out)
              rintro e w12 ⟨rfl, hb⟩
              refine ⟨_, rfl, ?_⟩
              have n0_ := Aside0.mk (Kd.R_below (by (with_reducible repeat (first | apply Kd.R_alloc | apply Kd.R_drewN | apply Kd.R_drew)); exact HO_3.out) hb)
              have n1_ := Aside0.mk (below_step (by repeat (first | (with_reducible first | exact HB.out | apply below_alloc | apply pw_below_drewN | apply below_drew1) | exact HB.out)) hb)
              clear HO_3
              clear HB
              have HO_3 := n0_
              have HB := n1_
              clear n0_ n1_
              (try clear hb)
              (try clear hb2)
              (try clear hk)
              (try clear hi)
              refine hK.out _ _ ⟨((HB.out.cell (World.block_lt_of_cell? w _ hw254_0)).trans hw254_0), ((HB.out.cell (World.block_lt_of_cell? w _ hw254_1)).trans hw254_1), ((HB.out.cell (World.block_lt_of_cell? w _ hw254_2)).trans hw254_2), ((HB.out.cell (World.block_lt_of_cell? w _ hw254_3)).trans hw254_3), ((HB.out.cell (World.block_lt_of_cell? w _ hw254_4)).trans hw254_4), ((HB.out.cell (World.block_lt_of_cell? w _ hw250_0)).trans hw250_0), ((HB.out.cell (World.block_lt_of_cell? w _ hw250_1)).trans hw250_1), ((HB.out.cell (World.block_lt_of_cell? w _ hw250_2)).trans hw250_2), ((HB.out.cell (World.block_lt_of_cell? w _ hw250_3)).trans hw250_3), ((HB.out.cell (World.block_lt_of_cell? w _ hw250_4)).trans hw250_4)⟩ (fun hHeld => ?_)
              clear hK K
              refine norm_ (a' := ?_) ?_ ?_
              rotate_left
              · show Act.put _ (some 18) _ = _
                simp only [Act.put, List.setIfInBounds_toArray, List.set_cons_zero, List.set_cons_succ, i64_w, i32_w]
                rfl
              refine pure_ (i := 3) (N := some 19) (v := ?_) (a' := ?_) #[true, true, true, true, false, false, true, true, true, true, false, false, false, false] rfl rfl (any_of HT_.out (by kernel_rfl)) (fun _ _ _ h => h) (Or.inl ⟨by rfl, ?_⟩) ?_ ?_
              rotate_left
              · intro w'
                go_simp
                with_reducible rfl
              rotate_left
              · simp only [Act.put, List.setIfInBounds_toArray, List.set_cons_zero, List.set_cons_succ, i64_w, i32_w]
                rfl
              refine take_ (i := 4) (N := some 20) (v := ?_) (a' := ?_) #[true, true, true, true, true, false, true, true, true, true, false, false, false, false] rfl rfl (take_ofW HT_.out HW_.out (by kernel_rfl)) (fun _ _ _ h => h) (Or.inl ⟨by rfl, ?_⟩) hHeld ?_ ?_
              rotate_left
              · rintro w' ⟨s0, s1, s2, s3, s4, s5, s6, s7, s8, s9⟩
                go_simp
                with_reducible rfl
              rotate_left
              · simp only [Act.put, List.setIfInBounds_toArray, List.set_cons_zero, List.set_cons_succ, i64_w, i32_w]
                rfl
              refine one_ (i := 5) (N := some 21) #[true, true, true, true, true, true, true, true, true, true, false, false, false, false] rfl rfl (one_of HT_.out (by kernel_rfl)) (by decide) (fun K hK => ?_)
              refine goes_ Try.func24 (by kernel_rfl) rfl #[.agg #[.bool ((rd_T35 l0 t249).f0), .int .i64 ((rd_T35 l0 t249).f1), .bool ((rd_T35 l0 t249).f2), .int .i64 ((rd_T35 l0 t249).f3), .slice A250_4 ((rd_T35 l0 t249).f4).length c250_4]] (by rfl) rfl rfl (by (try simp only [List.map_toArray, List.map_cons, List.map_nil]); first | done | rfl | (simp only [List.length_drop, List.length_take]; rfl)) ?_
              with_reducible refine (phaetonref06_Rank.calls k1 ((rd_T35 l0 t249).f0) ((rd_T35 l0 t249).f1) ((rd_T35 l0 t249).f2) ((rd_T35 l0 t249).f3) _ _ ((rd_T35 l0 t249).f4) t251 _ ?side1 ?side2 A8.out).mono ?_
              (case side1 => repeat (first | exact (Kd.C_below HR250_4.out HB.out) | (with_reducible refine Kd.C_alloc ?_ _) | (with_reducible refine Kd.C_drewN ?_ _) | (with_reducible refine Kd.C_drew ?_)))
              (case side2 => exact HC250_4.out)
              rintro e w13 ⟨v252, rfl, ho0, hb⟩
              refine ⟨_, rfl, ?_⟩
              have n0_ := Aside0.mk (Kd.R_elder' (by (with_reducible repeat (first | apply Kd.R_alloc | apply Kd.R_drewN | apply Kd.R_drew)); exact HO_3.out) (Kd.R_base ho0) hb)
              have n1_ := Aside0.mk (Kd.R_lower (Kd.R_new' ho0 (Kd.R_lt (by (with_reducible repeat (first | apply Kd.R_alloc | apply Kd.R_drewN | apply Kd.R_drew)); exact HO_3.out))) (below_size (by repeat (first | (with_reducible first | exact HB.out | apply below_alloc | apply pw_below_drewN | apply below_drew1) | exact HB.out))))
              have n2_ := Aside0.mk (below_step (by repeat (first | (with_reducible first | exact HB.out | apply below_alloc | apply pw_below_drewN | apply below_drew1) | exact HB.out)) hb)
              clear HO_3
              clear HB
              have HO_3 := n0_
              have HO253 := n1_
              have HB := n2_
              clear n0_ n1_ n2_
              (try clear hb)
              (try clear hb2)
              (try clear hk)
              (try clear hi)
              (try clear ho0)
              refine hK.out _ _ ⟨((HB.out.cell (World.block_lt_of_cell? w _ hw254_0)).trans hw254_0), ((HB.out.cell (World.block_lt_of_cell? w _ hw254_1)).trans hw254_1), ((HB.out.cell (World.block_lt_of_cell? w _ hw254_2)).trans hw254_2), ((HB.out.cell (World.block_lt_of_cell? w _ hw254_3)).trans hw254_3), ((HB.out.cell (World.block_lt_of_cell? w _ hw254_4)).trans hw254_4), ((HB.out.cell (World.block_lt_of_cell? w _ hw250_0)).trans hw250_0), ((HB.out.cell (World.block_lt_of_cell? w _ hw250_1)).trans hw250_1), ((HB.out.cell (World.block_lt_of_cell? w _ hw250_2)).trans hw250_2), ((HB.out.cell (World.block_lt_of_cell? w _ hw250_3)).trans hw250_3), ((HB.out.cell (World.block_lt_of_cell? w _ hw250_4)).trans hw250_4)⟩ (fun hHeld => ?_)
              clear hK K
              refine norm_ (a' := ?_) ?_ ?_
              rotate_left
              · show Act.put _ (some 21) _ = _
                simp only [Act.put, List.setIfInBounds_toArray, List.set_cons_zero, List.set_cons_succ, i64_w, i32_w]
                rfl
              refine one_ (i := 10) (N := some 26) #[true, true, true, true, true, true, true, true, true, true, true, false, false, false] rfl rfl (one_of HT_.out (by kernel_rfl)) (by decide) (fun K hK => ?_)
              refine goes_ Try.func24 (by kernel_rfl) rfl #[.agg #[.bool ((rd_T35 l0 x4_1).f0), .int .i64 ((rd_T35 l0 x4_1).f1), .bool ((rd_T35 l0 x4_1).f2), .int .i64 ((rd_T35 l0 x4_1).f3), .slice A254_4 ((rd_T35 l0 x4_1).f4).length c254_4]] (by rfl) rfl rfl (by (try simp only [List.map_toArray, List.map_cons, List.map_nil]); first | done | rfl | (simp only [List.length_drop, List.length_take]; rfl)) ?_
              with_reducible refine (phaetonref06_Rank.calls k1 ((rd_T35 l0 x4_1).f0) ((rd_T35 l0 x4_1).f1) ((rd_T35 l0 x4_1).f2) ((rd_T35 l0 x4_1).f3) _ _ ((rd_T35 l0 x4_1).f4) t255 _ ?side1 ?side2 A10.out).mono ?_
              (case side1 => repeat (first | exact (Kd.C_below HR254_4.out HB.out) | (with_reducible refine Kd.C_alloc ?_ _) | (with_reducible refine Kd.C_drewN ?_ _) | (with_reducible refine Kd.C_drew ?_)))
              (case side2 => exact HC254_4.out)
              rintro e w14 ⟨v256, rfl, ho0, hb⟩
              refine ⟨_, rfl, ?_⟩
              have n0_ := Aside0.mk (Kd.R_elder' (by (with_reducible repeat (first | apply Kd.R_alloc | apply Kd.R_drewN | apply Kd.R_drew)); exact HO_3.out) (Kd.R_base ho0) hb)
              have n1_ := Aside0.mk (Kd.R_elder' (by (with_reducible repeat (first | apply Kd.R_alloc | apply Kd.R_drewN | apply Kd.R_drew)); exact HO253.out) (Kd.R_base ho0) hb)
              have n2_ := Aside0.mk (Kd.R_lower (Kd.R_new' (Kd.R_new' ho0 (Kd.R_lt (by (with_reducible repeat (first | apply Kd.R_alloc | apply Kd.R_drewN | apply Kd.R_drew)); exact HO_3.out))) (Kd.R_lt (by (with_reducible repeat (first | apply Kd.R_alloc | apply Kd.R_drewN | apply Kd.R_drew)); exact HO253.out))) (below_size (by repeat (first | (with_reducible first | exact HB.out | apply below_alloc | apply pw_below_drewN | apply below_drew1) | exact HB.out))))
              have n3_ := Aside0.mk (below_step (by repeat (first | (with_reducible first | exact HB.out | apply below_alloc | apply pw_below_drewN | apply below_drew1) | exact HB.out)) hb)
              clear HO_3
              clear HO253
              clear HB
              have HO_3 := n0_
              have HO253 := n1_
              have HO257 := n2_
              have HB := n3_
              clear n0_ n1_ n2_ n3_
              (try clear hb)
              (try clear hb2)
              (try clear hk)
              (try clear hi)
              (try clear ho0)
              refine hK.out _ _ ⟨((HB.out.cell (World.block_lt_of_cell? w _ hw254_0)).trans hw254_0), ((HB.out.cell (World.block_lt_of_cell? w _ hw254_1)).trans hw254_1), ((HB.out.cell (World.block_lt_of_cell? w _ hw254_2)).trans hw254_2), ((HB.out.cell (World.block_lt_of_cell? w _ hw254_3)).trans hw254_3), ((HB.out.cell (World.block_lt_of_cell? w _ hw254_4)).trans hw254_4), ((HB.out.cell (World.block_lt_of_cell? w _ hw250_0)).trans hw250_0), ((HB.out.cell (World.block_lt_of_cell? w _ hw250_1)).trans hw250_1), ((HB.out.cell (World.block_lt_of_cell? w _ hw250_2)).trans hw250_2), ((HB.out.cell (World.block_lt_of_cell? w _ hw250_3)).trans hw250_3), ((HB.out.cell (World.block_lt_of_cell? w _ hw250_4)).trans hw250_4)⟩ (fun hHeld => ?_)
              clear hK K
              refine norm_ (a' := ?_) ?_ ?_
              rotate_left
              · show Act.put _ (some 26) _ = _
                simp only [Act.put, List.setIfInBounds_toArray, List.set_cons_zero, List.set_cons_succ, i64_w, i32_w]
                rfl
              refine pure_ (i := 11) (N := some 5) (v := ?_) (a' := ?_) #[true, true, true, true, true, true, true, true, true, true, true, true, false, false] rfl rfl (any_of HT_.out (by kernel_rfl)) (fun _ _ _ h => h) (Or.inl ⟨by rfl, ?_⟩) ?_ ?_
              rotate_left
              · intro w'
                go_simp
                with_reducible rfl
              rotate_left
              · simp only [Act.put, List.setIfInBounds_toArray, List.set_cons_zero, List.set_cons_succ, i64_w, i32_w]
                rfl
              refine pure_ (i := 12) (N := some 6) (v := ?_) (a' := ?_) #[true, true, true, true, true, true, true, true, true, true, true, true, true, false] rfl rfl (any_of HT_.out (by kernel_rfl)) (fun _ _ _ h => h) (Or.inl ⟨by rfl, ?_⟩) ?_ ?_
              rotate_left
              · intro w'
                go_simp
                with_reducible rfl
              rotate_left
              · simp only [Act.put, List.setIfInBounds_toArray, List.set_cons_zero, List.set_cons_succ, i64_w, i32_w]
                rfl
              refine pure_ (i := 13) (N := some 7) (v := ?_) (a' := ?_) #[true, true, true, true, true, true, true, true, true, true, true, true, true, true] rfl rfl (any_of HT_.out (by kernel_rfl)) (fun _ _ _ h => h) (Or.inl ⟨by rfl, ?_⟩) ?_ ?_
              rotate_left
              · intro w'
                go_simp
                with_reducible rfl
              rotate_left
              · simp only [Act.put, List.setIfInBounds_toArray, List.set_cons_zero, List.set_cons_succ, i64_w, i32_w]
                rfl
              refine done_ (done_of HT_.out (by kernel_rfl)) ?_
              try go_wp2
              go_loopg [7, 8] k1 (fun kq v7 v8 w' => ∃ (x7_2 : Int) (x8_2 : Int), v7 = .int .i64 x7_2 ∧ v8 = .int .i64 x8_2 ∧ Aside0 (phaetonref06_Lost.l1 kq l0 x3_1 x4_1 t251 t255 x7_2 x8_2 = some r) ∧ Aside0 (kq ≤ k1) ∧ Aside0 (Kd.R (Kd.int .i64) 3 w' w.heap.size (fun k_ => some k_ ≠ (v252 : Value).ownBlock ∧ some k_ ≠ (v256 : Value).ownBlock) u3 x3_1) ∧ Aside0 (Kd.R (Kd.int .i64) 3 w' w.heap.size (fun k_ => some k_ ≠ (u3 : Value).ownBlock ∧ some k_ ≠ (v256 : Value).ownBlock) v252 t251) ∧ Aside0 (Kd.R (Kd.int .i64) 3 w' w.heap.size (fun k_ => some k_ ≠ (u3 : Value).ownBlock ∧ some k_ ≠ (v252 : Value).ownBlock) v256 t255) ∧ Aside0 (Below w.heap.size w w'))
              case atStart => exact ⟨((-1)), (0), (by first | rfl | (simp; done) | (simp [*]; done)), (by first | rfl | (simp; done) | (simp [*]; done)), H', ⟨Nat.le_refl _⟩, ⟨by (with_reducible repeat (first | apply Kd.R_alloc | apply Kd.R_drewN | apply Kd.R_drew)); exact Kd.R_mono HO_3.out (fun k_ hk => by first | exact ⟨hk.1.2, hk.2⟩ | (refine ⟨?_, ?_⟩ <;> first | exact hk.1 | exact hk.2 | exact hk.1.2 | exact hk.2.2 | exact hk.1.1 | exact hk.2.1))⟩, ⟨by (with_reducible repeat (first | apply Kd.R_alloc | apply Kd.R_drewN | apply Kd.R_drew)); exact Kd.R_mono HO253.out (fun k_ hk => by first | exact ⟨hk.1.2, hk.2⟩ | (refine ⟨?_, ?_⟩ <;> first | exact hk.1 | exact hk.2 | exact hk.1.2 | exact hk.2.2 | exact hk.1.1 | exact hk.2.1))⟩, ⟨by (with_reducible repeat (first | apply Kd.R_alloc | apply Kd.R_drewN | apply Kd.R_drew)); exact Kd.R_mono HO257.out (fun k_ hk => by first | exact ⟨hk.1.2, hk.2⟩ | (refine ⟨?_, ?_⟩ <;> first | exact hk.1 | exact hk.2 | exact hk.1.2 | exact hk.2.2 | exact hk.1.1 | exact hk.2.1))⟩, ⟨by repeat (first | (with_reducible first | exact HB.out | apply below_alloc | apply pw_below_drewN | apply below_drew1) | exact HB.out)⟩⟩
              case round =>
                clear H'
                try clear c1
                try clear c2
                try clear p2
                try clear q2
                try clear hx2
                try clear c4
                try clear c4b0
                try clear c6
                try clear c6b0
                try clear c7
                try clear c7b0
                try clear c9
                try clear c9b0
                try clear hx250_0
                try clear hx250_1
                try clear hx250_2
                try clear hx250_3
                try clear hx250_4
                try clear hx254_0
                try clear hx254_1
                try clear hx254_2
                try clear hx254_3
                try clear hx254_4
                try clear p2
                try clear p250
                try clear p254
                try clear q250
                try clear q254
                obtain ⟨x7_2, x8_2, rfl, rfl, HA, HK2, HO_3, HO_5, HO_6, HB⟩ := hrel
                cases gk with
                | zero => exact absurd HA.out (by simp [phaetonref06_Lost.l1])
                | succ k2 =>
                  have H := HA.out
                  clear HA
                  simp only [phaetonref06_Lost.l1] at H
                  have HC15 := Aside0.mk H
                  clear H
                  go_upto_region 7 with (fail)
                  go_cut [40] (fun v40 wc => ∃ (kq : Nat) (x40_14 : Bool), v40 = .bool x40_14 ∧ Aside0 (phaetonref06_Lost.j2 kq l0 x3_1 x4_1 t251 t255 x7_2 x8_2 x40_14 = some r) ∧ Aside0 (kq ≤ k2) ∧ Aside0 (Kd.R (Kd.int .i64) 3 wc w.heap.size (fun k_ => some k_ ≠ (v252 : Value).ownBlock ∧ some k_ ≠ (v256 : Value).ownBlock) u3 x3_1) ∧ Aside0 (Kd.R (Kd.int .i64) 3 wc w.heap.size (fun k_ => some k_ ≠ (u3 : Value).ownBlock ∧ some k_ ≠ (v256 : Value).ownBlock) v252 t251) ∧ Aside0 (Kd.R (Kd.int .i64) 3 wc w.heap.size (fun k_ => some k_ ≠ (u3 : Value).ownBlock ∧ some k_ ≠ (v252 : Value).ownBlock) v256 t255) ∧ Aside0 (Below w.heap.size w wc))
                  case first =>
                    have H := HC15.out
                    clear HC15
                    by_cases c16 : x8_2 < (t251.length : Int)
                    · rw [if_pos c16] at H
                      have c16b0 : decide (x8_2 < (t251.length : Int)) = true := decide_eq_true c16
                      clear c16
                      (first | rw [c16b0] | (simp only [i64_w, i32_w]; rw [c16b0]) | skip)
                      by_cases c17 : x8_2 < (t255.length : Int)
                      · rw [if_pos c17] at H
                        have c17b0 : decide (x8_2 < (t255.length : Int)) = true := decide_eq_true c17
                        clear c17
                        have H' := Aside0.mk H
                        clear H
                        obtain ⟨Ao18, co18, eo18⟩ := Kd.R_slice HO_5.out
                        subst eo18
                        obtain ⟨Ao19, co19, eo19⟩ := Kd.R_slice HO_6.out
                        subst eo19
                        go_wp2
                        go_meet
                        case rel => exact ⟨_, (decide (x7_2 < 0)), (by first | rfl | (simp; done) | (simp [*]; done)), H', ⟨by have := HK1.out; have := HK2.out; first | omega | exact Nat.le_refl _⟩, ⟨by (with_reducible repeat (first | apply Kd.R_alloc | apply Kd.R_drewN | apply Kd.R_drew)); exact HO_3.out⟩, ⟨by (with_reducible repeat (first | apply Kd.R_alloc | apply Kd.R_drewN | apply Kd.R_drew)); exact HO_5.out⟩, ⟨by (with_reducible repeat (first | apply Kd.R_alloc | apply Kd.R_drewN | apply Kd.R_drew)); exact HO_6.out⟩, ⟨by repeat (first | (with_reducible first | exact HB.out | apply below_alloc | apply pw_below_drewN | apply below_drew1) | exact HB.out)⟩⟩
                      · rw [if_neg c17] at H
                        have c17b0 : decide (x8_2 < (t255.length : Int)) = false := decide_eq_false c17
                        clear c17
                        have H' := Aside0.mk H
                        clear H
                        obtain ⟨Ao20, co20, eo20⟩ := Kd.R_slice HO_5.out
                        subst eo20
                        obtain ⟨Ao21, co21, eo21⟩ := Kd.R_slice HO_6.out
                        subst eo21
                        go_wp2
                        go_meet
                        case rel => exact ⟨_, (false), (by first | rfl | (simp; done) | (simp [*]; done)), H', ⟨by have := HK1.out; have := HK2.out; first | omega | exact Nat.le_refl _⟩, ⟨by (with_reducible repeat (first | apply Kd.R_alloc | apply Kd.R_drewN | apply Kd.R_drew)); exact HO_3.out⟩, ⟨by (with_reducible repeat (first | apply Kd.R_alloc | apply Kd.R_drewN | apply Kd.R_drew)); exact HO_5.out⟩, ⟨by (with_reducible repeat (first | apply Kd.R_alloc | apply Kd.R_drewN | apply Kd.R_drew)); exact HO_6.out⟩, ⟨by repeat (first | (with_reducible first | exact HB.out | apply below_alloc | apply pw_below_drewN | apply below_drew1) | exact HB.out)⟩⟩
                    · rw [if_neg c16] at H
                      have c16b0 : decide (x8_2 < (t251.length : Int)) = false := decide_eq_false c16
                      clear c16
                      (first | rw [c16b0] | (simp only [i64_w, i32_w]; rw [c16b0]) | skip)
                      have H' := Aside0.mk H
                      clear H
                      obtain ⟨Ao22, co22, eo22⟩ := Kd.R_slice HO_5.out
                      subst eo22
                      go_wp2
                      go_meet
                      case rel => exact ⟨_, (false), (by first | rfl | (simp; done) | (simp [*]; done)), H', ⟨by have := HK1.out; have := HK2.out; first | omega | exact Nat.le_refl _⟩, ⟨by (with_reducible repeat (first | apply Kd.R_alloc | apply Kd.R_drewN | apply Kd.R_drew)); exact HO_3.out⟩, ⟨by (with_reducible repeat (first | apply Kd.R_alloc | apply Kd.R_drewN | apply Kd.R_drew)); exact HO_5.out⟩, ⟨by (with_reducible repeat (first | apply Kd.R_alloc | apply Kd.R_drewN | apply Kd.R_drew)); exact HO_6.out⟩, ⟨by repeat (first | (with_reducible first | exact HB.out | apply below_alloc | apply pw_below_drewN | apply below_drew1) | exact HB.out)⟩⟩
                  case rest =>
                    clear HC15
                    try clear c1
                    try clear c2
                    try clear p2
                    try clear q2
                    try clear hx2
                    try clear c4
                    try clear c4b0
                    try clear c6
                    try clear c6b0
                    try clear c7
                    try clear c7b0
                    try clear c9
                    try clear c9b0
                    try clear c15
                    try clear c16
                    try clear c16b0
                    try clear c17
                    try clear c17b0
                    try clear c18
                    try clear hx250_0
                    try clear hx250_1
                    try clear hx250_2
                    try clear hx250_3
                    try clear hx250_4
                    try clear hx254_0
                    try clear hx254_1
                    try clear hx254_2
                    try clear hx254_3
                    try clear hx254_4
                    try clear p2
                    try clear p250
                    try clear p254
                    try clear q2
                    try clear q250
                    try clear q254
                    obtain ⟨kq, x40_14, rfl, HA, HJ14, HO_3, HO_5, HO_6, HB⟩ := hcut
                    cases kq with
                    | zero => exact absurd HA.out (by simp [phaetonref06_Lost.j2])
                    | succ kj14 =>
                      have H := HA.out
                      clear HA
                      simp only [phaetonref06_Lost.j2] at H
                      by_cases c23 : x40_14 = true
                      · subst c23
                        have H1 : (if 0 ≤ x8_2 then (if x8_2 < (t251.length : Int) then (if x8_2 < (t255.length : Int) then (if (rd t251 x8_2) = (rd t255 x8_2) then (phaetonref06_Lost.l1 kj14 l0 x3_1 x4_1 t251 t255 x7_2 (wrap64 (x8_2 + 1))) else (phaetonref06_Lost.l1 kj14 l0 x3_1 x4_1 t251 t255 x8_2 (wrap64 (x8_2 + 1)))) else (none)) else (none)) else (none)) = some r := by rw [if_pos rfl] at H; exact H
                        clear H
                        have H := H1
                        clear H1
                        by_cases c24 : 0 ≤ x8_2
                        · rw [if_pos c24] at H
                          have c24b0 : decide (0 ≤ x8_2) = true := decide_eq_true c24
                          clear c24
                          by_cases c25 : x8_2 < (t251.length : Int)
                          · rw [if_pos c25] at H
                            have c25b0 : decide (x8_2 < (t251.length : Int)) = true := decide_eq_true c25
                            clear c25
                            by_cases c26 : x8_2 < (t255.length : Int)
                            · rw [if_pos c26] at H
                              have c26b0 : decide (x8_2 < (t255.length : Int)) = true := decide_eq_true c26
                              clear c26
                              by_cases c27 : (rd t251 x8_2) = (rd t255 x8_2)
                              · rw [if_pos c27] at H
                                have c27b0 : ((rd t251 x8_2) == (rd t255 x8_2)) = true := beq_iff_eq.mpr c27
                                have c27b1 : ((rd t251 x8_2) != (rd t255 x8_2)) = false := bne_eq_false_iff_eq.mpr c27
                                clear c27
                                have H' := Aside0.mk H
                                clear H
                                try go_wp2
                                have n0_ := Aside0.mk (Kd.R_drew HO_3.out)
                                have n1_ := Aside0.mk (Kd.R_drew HO_5.out)
                                have n2_ := Aside0.mk (Kd.R_drew HO_6.out)
                                have n3_ := Aside0.mk (below_drew1 HB.out)
                                clear HO_3
                                clear HO_5
                                clear HO_6
                                clear HB
                                have HO_3 := n0_
                                have HO_5 := n1_
                                have HO_6 := n2_
                                have HB := n3_
                                clear n0_ n1_ n2_ n3_
                                obtain ⟨Ao29, co29, eo29⟩ := Kd.R_slice HO_5.out
                                (first | subst eo29 | (injection eo29 with f1_ f2_ f3_; have f4_ := f1_.symm; have f5_ := f3_.symm; clear f1_ f2_ f3_; subst f4_; subst f5_))
                                have p258 : 0 ≤ (x8_2 : Int) := of_decide_eq_true (by first | (with_reducible assumption) | assumption)
                                have q258 : x8_2 < (t251.length : Int) := of_decide_eq_true (by first | (with_reducible assumption) | assumption)
                                obtain ⟨ad258, e258, hx258_0⟩ := Kd.at_int (Kd.R_reads' HO_5.out).2.2 x8_2 p258 q258
                                cases e258
                                replace p258 := eq_true p258
                                replace q258 := eq_true q258
                                obtain ⟨Ao30, co30, eo30⟩ := Kd.R_slice HO_6.out
                                (first | subst eo30 | (injection eo30 with f1_ f2_ f3_; have f4_ := f1_.symm; have f5_ := f3_.symm; clear f1_ f2_ f3_; subst f4_; subst f5_))
                                have p259 : 0 ≤ (x8_2 : Int) := of_decide_eq_true (by first | (with_reducible assumption) | assumption)
                                have q259 : x8_2 < (t255.length : Int) := of_decide_eq_true (by first | (with_reducible assumption) | assumption)
                                obtain ⟨ad259, e259, hx259_0⟩ := Kd.at_int (Kd.R_reads' HO_6.out).2.2 x8_2 p259 q259
                                cases e259
                                replace p259 := eq_true p259
                                replace q259 := eq_true q259
                                refine start_ (n := 9) (S := fun w' => w'.cell? (ad258.add (x8_2).toNat) = some (.int .i64 (rd t251 x8_2)) ∧ w'.cell? (ad259.add (x8_2).toNat) = some (.int .i64 (rd t255 x8_2))) (ds := []) #[false, false, false, false, false, false, false, false, false] (by kernel_rfl) rfl rfl ⟨hx258_0, hx259_0⟩ (fun hHeld => ?_); refine with_tabW phaetonref06_Lost.tab9 phaetonref06_Lost.bits9 (fun HT_ HW_ => ?_)
                                generalize wc.drew = w28 at HO_3 HO_5 HO_6 HB hx258_0 hx259_0 hHeld ⊢
                                refine pure_ (i := 0) (N := some 43) (v := ?_) (a' := ?_) #[true, false, false, false, false, false, false, false, false] rfl rfl (any_of HT_.out (by kernel_rfl)) (fun _ _ _ h => h) (Or.inl ⟨by rfl, ?_⟩) ?_ ?_
                                rotate_left
                                · intro w'
                                  go_simp
                                  with_reducible rfl
                                rotate_left
                                · simp only [Act.put, List.setIfInBounds_toArray, List.set_cons_zero, List.set_cons_succ, i64_w, i32_w]
                                  rfl
                                refine pure_ (i := 1) (N := some 44) (v := ?_) (a' := ?_) #[true, true, false, false, false, false, false, false, false] rfl rfl (any_of HT_.out (by kernel_rfl)) (fun _ _ _ h => h) (Or.inl ⟨by rfl, ?_⟩) ?_ ?_
                                rotate_left
                                · intro w'
                                  go_simp
                                  with_reducible rfl
                                rotate_left
                                · simp only [Act.put, List.setIfInBounds_toArray, List.set_cons_zero, List.set_cons_succ, i64_w, i32_w]
                                  rfl
                                refine pure_ (i := 2) (N := some 45) (v := ?_) (a' := ?_) #[true, true, true, false, false, false, false, false, false] rfl rfl (any_of HT_.out (by kernel_rfl)) (fun _ _ _ h => h) (Or.inl ⟨by rfl, ?_⟩) ?_ ?_
                                rotate_left
                                · intro w'
                                  go_simp
                                  with_reducible rfl
                                rotate_left
                                · simp only [Act.put, List.setIfInBounds_toArray, List.set_cons_zero, List.set_cons_succ, i64_w, i32_w]
                                  rfl
                                refine pure_ (i := 4) (N := some 47) (v := ?_) (a' := ?_) #[true, true, true, false, true, false, false, false, false] rfl rfl (any_of HT_.out (by kernel_rfl)) (fun _ _ _ h => h) (Or.inl ⟨by rfl, ?_⟩) ?_ ?_
                                rotate_left
                                · intro w'
                                  go_simp
                                  with_reducible rfl
                                rotate_left
                                · simp only [Act.put, List.setIfInBounds_toArray, List.set_cons_zero, List.set_cons_succ, i64_w, i32_w]
                                  rfl
                                refine pure_ (i := 5) (N := some 48) (v := ?_) (a' := ?_) #[true, true, true, false, true, true, false, false, false] rfl rfl (any_of HT_.out (by kernel_rfl)) (fun _ _ _ h => h) (Or.inl ⟨by rfl, ?_⟩) ?_ ?_
                                rotate_left
                                · intro w'
                                  go_simp
                                  with_reducible rfl
                                rotate_left
                                · simp only [Act.put, List.setIfInBounds_toArray, List.set_cons_zero, List.set_cons_succ, i64_w, i32_w]
                                  rfl
                                refine pure_ (i := 6) (N := some 49) (v := ?_) (a' := ?_) #[true, true, true, false, true, true, true, false, false] rfl rfl (any_of HT_.out (by kernel_rfl)) (fun _ _ _ h => h) (Or.inl ⟨by rfl, ?_⟩) ?_ ?_
                                rotate_left
                                · intro w'
                                  go_simp
                                  with_reducible rfl
                                rotate_left
                                · simp only [Act.put, List.setIfInBounds_toArray, List.set_cons_zero, List.set_cons_succ, i64_w, i32_w]
                                  rfl
                                refine take_ (i := 3) (N := some 46) (v := ?_) (a' := ?_) #[true, true, true, true, true, true, true, false, false] rfl rfl (take_ofW HT_.out HW_.out (by kernel_rfl)) (fun _ _ _ h => h) (Or.inl ⟨by rfl, ?_⟩) hHeld ?_ ?_
                                rotate_left
                                · rintro w' ⟨s0, s1⟩
                                  go_simp
                                  with_reducible rfl
                                rotate_left
                                · simp only [Act.put, List.setIfInBounds_toArray, List.set_cons_zero, List.set_cons_succ, i64_w, i32_w]
                                  rfl
                                refine take_ (i := 7) (N := some 50) (v := ?_) (a' := ?_) #[true, true, true, true, true, true, true, true, false] rfl rfl (take_ofW HT_.out HW_.out (by kernel_rfl)) (fun _ _ _ h => h) (Or.inl ⟨by rfl, ?_⟩) hHeld ?_ ?_
                                rotate_left
                                · rintro w' ⟨s0, s1⟩
                                  go_simp
                                  with_reducible rfl
                                rotate_left
                                · simp only [Act.put, List.setIfInBounds_toArray, List.set_cons_zero, List.set_cons_succ, i64_w, i32_w]
                                  rfl
                                refine pure_ (i := 8) (N := some 51) (v := ?_) (a' := ?_) #[true, true, true, true, true, true, true, true, true] rfl rfl (any_of HT_.out (by kernel_rfl)) (fun _ _ _ h => h) (Or.inl ⟨by rfl, ?_⟩) ?_ ?_
                                rotate_left
                                · intro w'
                                  go_simp
                                  with_reducible rfl
                                rotate_left
                                · simp only [Act.put, List.setIfInBounds_toArray, List.set_cons_zero, List.set_cons_succ, i64_w, i32_w]
                                  rfl
                                refine done_ (done_of HT_.out (by kernel_rfl)) ?_
                                try go_wp2
                                go_roundg kj14
                                case measure => have := HK1.out; have := HK2.out; have := HJ14.out; omega
                                case rel => exact ⟨(x7_2), (wrap64 (x8_2 + 1)), (by first | rfl | (simp; done) | (simp [*]; done)), (by first | rfl | (simp; done) | (simp [*]; done)), H', ⟨by have := HK1.out; have := HK2.out; have := HJ14.out; omega⟩, ⟨by (with_reducible repeat (first | apply Kd.R_alloc | apply Kd.R_drewN | apply Kd.R_drew)); exact HO_3.out⟩, ⟨by (with_reducible repeat (first | apply Kd.R_alloc | apply Kd.R_drewN | apply Kd.R_drew)); exact HO_5.out⟩, ⟨by (with_reducible repeat (first | apply Kd.R_alloc | apply Kd.R_drewN | apply Kd.R_drew)); exact HO_6.out⟩, ⟨by repeat (first | (with_reducible first | exact HB.out | apply below_alloc | apply pw_below_drewN | apply below_drew1) | exact HB.out)⟩⟩
                              · rw [if_neg c27] at H
                                have c27b0 : ((rd t251 x8_2) == (rd t255 x8_2)) = false := beq_eq_false_iff_ne.mpr c27
                                have c27b1 : ((rd t251 x8_2) != (rd t255 x8_2)) = true := bne_iff_ne.mpr c27
                                have H' := Aside0.mk H
                                clear H
                                try go_wp2
                                have n0_ := Aside0.mk (Kd.R_drew HO_3.out)
                                have n1_ := Aside0.mk (Kd.R_drew HO_5.out)
                                have n2_ := Aside0.mk (Kd.R_drew HO_6.out)
                                have n3_ := Aside0.mk (below_drew1 HB.out)
                                clear HO_3
                                clear HO_5
                                clear HO_6
                                clear HB
                                have HO_3 := n0_
                                have HO_5 := n1_
                                have HO_6 := n2_
                                have HB := n3_
                                clear n0_ n1_ n2_ n3_
                                obtain ⟨Ao32, co32, eo32⟩ := Kd.R_slice HO_5.out
                                (first | subst eo32 | (injection eo32 with f1_ f2_ f3_; have f4_ := f1_.symm; have f5_ := f3_.symm; clear f1_ f2_ f3_; subst f4_; subst f5_))
                                have p258 : 0 ≤ (x8_2 : Int) := of_decide_eq_true (by first | (with_reducible assumption) | assumption)
                                have q258 : x8_2 < (t251.length : Int) := of_decide_eq_true (by first | (with_reducible assumption) | assumption)
                                obtain ⟨ad258, e258, hx258_0⟩ := Kd.at_int (Kd.R_reads' HO_5.out).2.2 x8_2 p258 q258
                                cases e258
                                replace p258 := eq_true p258
                                replace q258 := eq_true q258
                                obtain ⟨Ao33, co33, eo33⟩ := Kd.R_slice HO_6.out
                                (first | subst eo33 | (injection eo33 with f1_ f2_ f3_; have f4_ := f1_.symm; have f5_ := f3_.symm; clear f1_ f2_ f3_; subst f4_; subst f5_))
                                have p259 : 0 ≤ (x8_2 : Int) := of_decide_eq_true (by first | (with_reducible assumption) | assumption)
                                have q259 : x8_2 < (t255.length : Int) := of_decide_eq_true (by first | (with_reducible assumption) | assumption)
                                obtain ⟨ad259, e259, hx259_0⟩ := Kd.at_int (Kd.R_reads' HO_6.out).2.2 x8_2 p259 q259
                                cases e259
                                replace p259 := eq_true p259
                                replace q259 := eq_true q259
                                refine start_ (n := 9) (S := fun w' => w'.cell? (ad258.add (x8_2).toNat) = some (.int .i64 (rd t251 x8_2)) ∧ w'.cell? (ad259.add (x8_2).toNat) = some (.int .i64 (rd t255 x8_2))) (ds := []) #[false, false, false, false, false, false, false, false, false] (by kernel_rfl) rfl rfl ⟨hx258_0, hx259_0⟩ (fun hHeld => ?_); refine with_tabW phaetonref06_Lost.tab9 phaetonref06_Lost.bits9 (fun HT_ HW_ => ?_)
                                generalize wc.drew = w31 at HO_3 HO_5 HO_6 HB hx258_0 hx259_0 hHeld ⊢
                                refine pure_ (i := 0) (N := some 43) (v := ?_) (a' := ?_) #[true, false, false, false, false, false, false, false, false] rfl rfl (any_of HT_.out (by kernel_rfl)) (fun _ _ _ h => h) (Or.inl ⟨by rfl, ?_⟩) ?_ ?_
                                rotate_left
                                · intro w'
                                  go_simp
                                  with_reducible rfl
                                rotate_left
                                · simp only [Act.put, List.setIfInBounds_toArray, List.set_cons_zero, List.set_cons_succ, i64_w, i32_w]
                                  rfl
                                refine pure_ (i := 1) (N := some 44) (v := ?_) (a' := ?_) #[true, true, false, false, false, false, false, false, false] rfl rfl (any_of HT_.out (by kernel_rfl)) (fun _ _ _ h => h) (Or.inl ⟨by rfl, ?_⟩) ?_ ?_
                                rotate_left
                                · intro w'
                                  go_simp
                                  with_reducible rfl
                                rotate_left
                                · simp only [Act.put, List.setIfInBounds_toArray, List.set_cons_zero, List.set_cons_succ, i64_w, i32_w]
                                  rfl
                                refine pure_ (i := 2) (N := some 45) (v := ?_) (a' := ?_) #[true, true, true, false, false, false, false, false, false] rfl rfl (any_of HT_.out (by kernel_rfl)) (fun _ _ _ h => h) (Or.inl ⟨by rfl, ?_⟩) ?_ ?_
                                rotate_left
                                · intro w'
                                  go_simp
                                  with_reducible rfl
                                rotate_left
                                · simp only [Act.put, List.setIfInBounds_toArray, List.set_cons_zero, List.set_cons_succ, i64_w, i32_w]
                                  rfl
                                refine pure_ (i := 4) (N := some 47) (v := ?_) (a' := ?_) #[true, true, true, false, true, false, false, false, false] rfl rfl (any_of HT_.out (by kernel_rfl)) (fun _ _ _ h => h) (Or.inl ⟨by rfl, ?_⟩) ?_ ?_
                                rotate_left
                                · intro w'
                                  go_simp
                                  with_reducible rfl
                                rotate_left
                                · simp only [Act.put, List.setIfInBounds_toArray, List.set_cons_zero, List.set_cons_succ, i64_w, i32_w]
                                  rfl
                                refine pure_ (i := 5) (N := some 48) (v := ?_) (a' := ?_) #[true, true, true, false, true, true, false, false, false] rfl rfl (any_of HT_.out (by kernel_rfl)) (fun _ _ _ h => h) (Or.inl ⟨by rfl, ?_⟩) ?_ ?_
                                rotate_left
                                · intro w'
                                  go_simp
                                  with_reducible rfl
                                rotate_left
                                · simp only [Act.put, List.setIfInBounds_toArray, List.set_cons_zero, List.set_cons_succ, i64_w, i32_w]
                                  rfl
                                refine pure_ (i := 6) (N := some 49) (v := ?_) (a' := ?_) #[true, true, true, false, true, true, true, false, false] rfl rfl (any_of HT_.out (by kernel_rfl)) (fun _ _ _ h => h) (Or.inl ⟨by rfl, ?_⟩) ?_ ?_
                                rotate_left
                                · intro w'
                                  go_simp
                                  with_reducible rfl
                                rotate_left
                                · simp only [Act.put, List.setIfInBounds_toArray, List.set_cons_zero, List.set_cons_succ, i64_w, i32_w]
                                  rfl
                                refine take_ (i := 3) (N := some 46) (v := ?_) (a' := ?_) #[true, true, true, true, true, true, true, false, false] rfl rfl (take_ofW HT_.out HW_.out (by kernel_rfl)) (fun _ _ _ h => h) (Or.inl ⟨by rfl, ?_⟩) hHeld ?_ ?_
                                rotate_left
                                · rintro w' ⟨s0, s1⟩
                                  go_simp
                                  with_reducible rfl
                                rotate_left
                                · simp only [Act.put, List.setIfInBounds_toArray, List.set_cons_zero, List.set_cons_succ, i64_w, i32_w]
                                  rfl
                                refine take_ (i := 7) (N := some 50) (v := ?_) (a' := ?_) #[true, true, true, true, true, true, true, true, false] rfl rfl (take_ofW HT_.out HW_.out (by kernel_rfl)) (fun _ _ _ h => h) (Or.inl ⟨by rfl, ?_⟩) hHeld ?_ ?_
                                rotate_left
                                · rintro w' ⟨s0, s1⟩
                                  go_simp
                                  with_reducible rfl
                                rotate_left
                                · simp only [Act.put, List.setIfInBounds_toArray, List.set_cons_zero, List.set_cons_succ, i64_w, i32_w]
                                  rfl
                                refine pure_ (i := 8) (N := some 51) (v := ?_) (a' := ?_) #[true, true, true, true, true, true, true, true, true] rfl rfl (any_of HT_.out (by kernel_rfl)) (fun _ _ _ h => h) (Or.inl ⟨by rfl, ?_⟩) ?_ ?_
                                rotate_left
                                · intro w'
                                  go_simp
                                  with_reducible rfl
                                rotate_left
                                · simp only [Act.put, List.setIfInBounds_toArray, List.set_cons_zero, List.set_cons_succ, i64_w, i32_w]
                                  rfl
                                refine done_ (done_of HT_.out (by kernel_rfl)) ?_
                                try go_wp2
                                go_roundg kj14
                                case measure => have := HK1.out; have := HK2.out; have := HJ14.out; omega
                                case rel => exact ⟨(x8_2), (wrap64 (x8_2 + 1)), (by first | rfl | (simp; done) | (simp [*]; done)), (by first | rfl | (simp; done) | (simp [*]; done)), H', ⟨by have := HK1.out; have := HK2.out; have := HJ14.out; omega⟩, ⟨by (with_reducible repeat (first | apply Kd.R_alloc | apply Kd.R_drewN | apply Kd.R_drew)); exact HO_3.out⟩, ⟨by (with_reducible repeat (first | apply Kd.R_alloc | apply Kd.R_drewN | apply Kd.R_drew)); exact HO_5.out⟩, ⟨by (with_reducible repeat (first | apply Kd.R_alloc | apply Kd.R_drewN | apply Kd.R_drew)); exact HO_6.out⟩, ⟨by repeat (first | (with_reducible first | exact HB.out | apply below_alloc | apply pw_below_drewN | apply below_drew1) | exact HB.out)⟩⟩
                            · rw [if_neg c26] at H
                              exact absurd H (by simp)
                          · rw [if_neg c25] at H
                            exact absurd H (by simp)
                        · rw [if_neg c24] at H
                          exact absurd H (by simp)
                      · replace c23 := Bool.eq_false_iff.mpr c23
                        subst c23
                        have H1 : (if x3_1.length < 17592186044416 then (phaetonref06_Lost.l0 kj14 l0 (x3_1 ++ [x7_2]) (wrap64 (x4_1 + 1))) else (none)) = some r := by rw [if_neg (show ¬ (false = true) by decide)] at H; exact H
                        clear H
                        have H := H1
                        clear H1
                        by_cases c34 : x3_1.length < 17592186044416
                        · rw [if_pos c34] at H
                          have LMc34 := Aside0.mk c34
                          clear c34
                          obtain ⟨y260, hy260⟩ : ∃ y_ : List Int, y_ = (x3_1 ++ [x7_2]) := ⟨_, rfl⟩
                          replace H : (phaetonref06_Lost.l0 kj14 l0 y260 (wrap64 (x4_1 + 1))) = some r := by first | (rw [hy260]; with_reducible exact H) | (have H2_ := (Option.bind_some _ _).symm.trans H; rw [hy260]; with_reducible exact H2_) | (have H2_ := (Option.bind_some _ _).symm.trans H; with_reducible exact H2_) | with_reducible exact H | (rw [hy260]; exact H) | exact H
                          have Ny260 := Aside0.mk hy260
                          clear hy260
                          have H' := Aside0.mk H
                          clear H
                          go_wp2_with (first | ((with_reducible refine gate_builtin (b := .append) (xs := #[.tmp 53, .tmp 55]) rfl ?_); (try (refine gate_guard (by rfl) ?_; dsimp only)); at_builtin; refine Kd.R_append (Kd.int .i64) (w0 := w) w.heap.size rfl (.tmp 53) (.tmp 55) 23 3 (.int .i64 0) 8 rfl Try.underlying23 info3 rfl (by decide) (by omega) u3 x3_1 x7_2 [.int .i64 x7_2] (fun k_ => some k_ ≠ (v252 : Value).ownBlock ∧ some k_ ≠ (v256 : Value).ownBlock) (fun _ => False) rfl rfl ?aP (fun _ hk => hk.elim) ?aF ?aO ?aB ?aS ?aL ?_; (case aP => exact rfl); (case aB => exact (by repeat (first | (with_reducible first | exact HB.out | apply below_alloc | apply pw_below_drewN | apply below_drew1) | exact HB.out))); (case aF => exact (fun k_ hk => ⟨Kd.fresh' (Kd.R_lt (by (with_reducible repeat (first | apply Kd.R_alloc | apply Kd.R_drewN | apply Kd.R_drew)); exact HO_5.out)) k_ hk, Kd.fresh' (Kd.R_lt (by (with_reducible repeat (first | apply Kd.R_alloc | apply Kd.R_drewN | apply Kd.R_drew)); exact HO_6.out)) k_ hk⟩)); (case aO => exact (by (with_reducible repeat (first | apply Kd.R_alloc | apply Kd.R_drewN | apply Kd.R_drew)); exact HO_3.out)); (case aS => exact (below_size (by repeat (first | (with_reducible first | exact HB.out | apply below_alloc | apply pw_below_drewN | apply below_drew1) | exact HB.out)))); (case aL => have := LMc34.out; omega); intro v261 w35 ho hb hg hat; rw [← Ny260.out] at ho; have n0_ := Aside0.mk (Kd.R_after (ok := (fun k_ => some k_ ≠ (v256 : Value).ownBlock)) (by (with_reducible repeat (first | apply Kd.R_alloc | apply Kd.R_drewN | apply Kd.R_drew)); exact Kd.R_mono HO_5.out (fun _ hk => ⟨hk.2, hk.1⟩)) hg hat); have n1_ := Aside0.mk (Kd.R_after (ok := (fun k_ => some k_ ≠ (v252 : Value).ownBlock)) (by (with_reducible repeat (first | apply Kd.R_alloc | apply Kd.R_drewN | apply Kd.R_drew)); exact Kd.R_mono HO_6.out (fun _ hk => ⟨hk.2, hk.1⟩)) hg hat); have n2_ := Aside0.mk (hb); have n3_ := Aside0.mk (ho); clear HO_5; clear HO_6; clear HB; clear HO_3; have HO_5 := n0_; have HO_6 := n1_; have HB := n2_; have HO262 := n3_; clear n0_ n1_ n2_ n3_; clear ho hb hg hat))
                          go_roundg kj14
                          case measure => have := HK1.out; have := HK2.out; have := HJ14.out; omega
                          case rel => exact ⟨(y260), (wrap64 (x4_1 + 1)), (by first | rfl | (simp; done) | (simp [*]; done)), H', ⟨by have := HK1.out; have := HK2.out; have := HJ14.out; omega⟩, ⟨by (with_reducible repeat (first | apply Kd.R_alloc | apply Kd.R_drewN | apply Kd.R_drew)); exact Kd.R_mono HO262.out (fun _ hk => trivial)⟩, ⟨by repeat (first | (with_reducible first | exact HB.out | apply below_alloc | apply pw_below_drewN | apply below_drew1) | exact HB.out)⟩⟩
                        · rw [if_neg c34] at H
                          exact absurd H (by simp)
            · rw [if_neg c9] at H
              exact absurd H (by simp)
          · rw [if_neg c7] at H
            exact absurd H (by simp)
        · rw [if_neg c6] at H
          exact absurd H (by simp)
      · rw [if_neg c4] at H
        have c4b0 : decide (x4_1 < (l0.length : Int)) = false := decide_eq_false c4
        clear c4
        obtain rfl := Option.some.inj H
        go_wp2
        go_ret
        exact ⟨_, by first | rfl | (simp [errW_none, errW_some] <;> rfl) | (simp [*, errW_none, errW_some] <;> rfl), by (with_reducible repeat (first | apply Kd.R_alloc | apply Kd.R_drewN | apply Kd.R_drew)); exact HO_3.out, by repeat (first | (with_reducible first | exact HB.out | apply below_alloc | apply pw_below_drewN | apply below_drew1) | exact HB.out)⟩

/-! ### phaetonref06_Line: function 20 -/
def phaetonref06_Line.f (k : Nat) (l0 : List (S35)) : Option (List Int) := if (l0.length : Int) = 0 then (some (([] : List Int))) else ((phaetonref06_Win.f k l0).bind fun t266 => (if 0 ≤ t266 then (if t266 < (l0.length : Int) then ((phaetonref06_Rank.f k ((rd_T35 l0 t266).f0) ((rd_T35 l0 t266).f1) ((rd_T35 l0 t266).f2) ((rd_T35 l0 t266).f3) ((rd_T35 l0 t266).f4)).bind fun t268 => (some t268)) else (none)) else (none)))
theorem phaetonref06_Line.mono : ∀ a0 k, LeO (phaetonref06_Line.f k a0) (phaetonref06_Line.f (k + 1) a0) := by
  intro a0 k
  unfold phaetonref06_Line.f
  repeat' first
      | (with_reducible exact phaetonref06_Rank.mono _ _ _ _ _ _)
      | (with_reducible exact phaetonref06_Win.mono _ _)
      | (with_reducible exact LeO.refl _)
      | (with_reducible exact LeO.none _)
      | (with_reducible refine LeO.ite ?_ ?_)
      | (with_reducible refine LeO.bind ?_ (fun _ => ?_))
      | exact phaetonref06_Rank.mono _ _ _ _ _ _
      | exact phaetonref06_Win.mono _ _
      | exact LeO.none _
      | refine LeO.ite ?_ ?_
      | refine LeO.bind ?_ (fun _ => ?_)
set_option maxHeartbeats 8000000 in
set_option maxRecDepth 100000 in
theorem phaetonref06_Line.calls (k : Nat) (A0 : Option Addr) (c0 : Nat) (l0 : List (S35)) (r : List Int) (w : World) (hr0 : Kd.C k35 w A0 l0.length l0) (hc0 : l0.length ≤ c0) (h : phaetonref06_Line.f k l0 = some r) :
    Calls Try.prog 20 #[.slice A0 l0.length c0] w fun e w' => ∃ v0_ : Value, e = .returned (v0_) ∧ Kd.R (Kd.int .i64) 3 w' w.heap.size (fun _ => True) v0_ r ∧ Below w.heap.size w w' := by
  have hu35 := Try.underlying35
  have HR0 := Aside0.mk hr0
  have HC0 := Aside0.mk hc0
  clear hr0 hc0
  have HB := Aside0.mk (Below.refl w.heap.size w)
  have H : (if (l0.length : Int) = 0 then (some (([] : List Int))) else ((phaetonref06_Win.f k l0).bind fun t266 => (if 0 ≤ t266 then (if t266 < (l0.length : Int) then ((phaetonref06_Rank.f k ((rd_T35 l0 t266).f0) ((rd_T35 l0 t266).f1) ((rd_T35 l0 t266).f2) ((rd_T35 l0 t266).f3) ((rd_T35 l0 t266).f4)).bind fun t268 => (some t268)) else (none)) else (none)))) = some r := h
  clear h
  by_cases c2 : (l0.length : Int) = 0
  · rw [if_pos c2] at H
    have c2b0 : ((l0.length : Int) == 0) = true := beq_iff_eq.mpr c2
    have c2b1 : ((l0.length : Int) != 0) = false := bne_eq_false_iff_eq.mpr c2
    clear c2
    obtain ⟨y263, hy263⟩ : ∃ y_ : List Int, y_ = (([] : List Int)) := ⟨_, rfl⟩
    replace H : (some y263) = some r := by first | (rw [hy263]; with_reducible exact H) | (have H2_ := (Option.bind_some _ _).symm.trans H; rw [hy263]; with_reducible exact H2_) | (have H2_ := (Option.bind_some _ _).symm.trans H; with_reducible exact H2_) | with_reducible exact H | (rw [hy263]; exact H) | exact H
    have Ny263 := Aside0.mk hy263
    clear hy263
    obtain rfl := Option.some.inj H
    go_enter Try.func20, Try.ntmps20
    go_wp2_with (first | ((with_reducible refine gate_dst (N := 6) rfl ?_); refine Kd.R_lit (Kd.int .i64) _ 3 ?hg (N := 6) ?hd (xs := ([] : List Int)) (inner := []) (ok := fun _ => True) (okp := fun _ => True) ?hr ?hp (fun _ hk => hk) trivial (Below.refl _ _) (Nat.le_refl _) (by simp) ?_; (case hd => rfl); (case hg => rfl); (case hr => first | (go_simp; done) | (go_simp; rfl)); (case hp => exact (Reps.none _ _)); intro v264 w3 ho4 hb hg_ hnew_; clear hg_ hnew_; (first | rw [← Ny263.out] at ho4 | (simp only [Int.reduceToNat] at ho4; rw [← Ny263.out] at ho4)); have n0_ := Aside0.mk (Kd.R_lower ho4 (below_size (by repeat (first | (with_reducible first | exact HB.out | apply below_alloc | apply pw_below_drewN | apply below_drew1) | exact HB.out)))); have n1_ := Aside0.mk (below_step (by repeat (first | (with_reducible first | exact HB.out | apply below_alloc | apply pw_below_drewN | apply below_drew1) | exact HB.out)) hb); clear HB; have HO265 := n0_; have HB := n1_; clear n0_ n1_; clear hb ho4))
    go_ret
    exact ⟨_, by first | rfl | (simp [errW_none, errW_some] <;> rfl) | (simp [*, errW_none, errW_some] <;> rfl), by (with_reducible repeat (first | apply Kd.R_alloc | apply Kd.R_drewN | apply Kd.R_drew)); exact HO265.out, by repeat (first | (with_reducible first | exact HB.out | apply below_alloc | apply pw_below_drewN | apply below_drew1) | exact HB.out)⟩
  · rw [if_neg c2] at H
    have c2b0 : ((l0.length : Int) == 0) = false := beq_eq_false_iff_ne.mpr c2
    have c2b1 : ((l0.length : Int) != 0) = true := bne_iff_ne.mpr c2
    have c2b2 : ¬ (l0 = []) := fun h_ => c2 (by rw [h_]; rfl)
    replace H := Option.bind_eq_some_iff.mp H
    obtain ⟨t266, A50, H⟩ := H
    replace H : (if 0 ≤ t266 then (if t266 < (l0.length : Int) then ((phaetonref06_Rank.f k ((rd_T35 l0 t266).f0) ((rd_T35 l0 t266).f1) ((rd_T35 l0 t266).f2) ((rd_T35 l0 t266).f3) ((rd_T35 l0 t266).f4)).bind fun t268 => (some t268)) else (none)) else (none)) = some r := H
    have A5 := Aside0.mk A50
    clear A50
    by_cases c6 : 0 ≤ t266
    · rw [if_pos c6] at H
      have c6b0 : decide (0 ≤ t266) = true := decide_eq_true c6
      clear c6
      by_cases c7 : t266 < (l0.length : Int)
      · rw [if_pos c7] at H
        have c7b0 : decide (t266 < (l0.length : Int)) = true := decide_eq_true c7
        clear c7
        replace H := Option.bind_eq_some_iff.mp H
        obtain ⟨t268, A80, H⟩ := H
        replace H : (some t268) = some r := H
        have A8 := Aside0.mk A80
        clear A80
        obtain rfl := Option.some.inj H
        go_enter Try.func20, Try.ntmps20
        go_wp2_with (first | ((with_reducible refine gate_callee (f := 15) rfl ?_); refine goesL_ (some 9) rfl rfl Try.func15 (by kernel_rfl) rfl #[.slice A0 l0.length c0] rfl (by (try simp only [List.map_toArray, List.map_cons, List.map_nil]); first | done | rfl | (simp only [List.length_drop, List.length_take]; rfl)) ?_; (with_reducible refine (phaetonref06_Win.calls k _ _ l0 t266 _ ?side1 ?side2 A5.out).mono ?_); (case side1 => repeat (first | exact HR0.out | (with_reducible refine Kd.C_alloc ?_ _) | (with_reducible refine Kd.C_drewN ?_ _) | (with_reducible refine Kd.C_drew ?_))); (case side2 => exact HC0.out); rintro e w9 ⟨rfl, hb⟩; refine ⟨_, rfl, ?_⟩; have n0_ := Aside0.mk (below_step (by repeat (first | (with_reducible first | exact HB.out | apply below_alloc | apply pw_below_drewN | apply below_drew1) | exact HB.out)) hb); clear HB; have HB := n0_; clear n0_; (try clear hb); (try clear hb2); (try clear hk); (try clear hi); have p267 : 0 ≤ (t266 : Int) := of_decide_eq_true (by first | (with_reducible assumption) | assumption); have q267 : t266 < (l0.length : Int) := of_decide_eq_true (by first | (with_reducible assumption) | assumption); obtain ⟨ad267, A267_4, c267_4, e267, hx267_0, hx267_1, hx267_2, hx267_3, hx267_4, hl267_4, hi267_4⟩ := at_T35 HR0.out t266 p267 q267; cases e267; replace hx267_0 := (HB.out.cell (World.block_lt_of_cell? w _ hx267_0)).trans hx267_0; replace hx267_1 := (HB.out.cell (World.block_lt_of_cell? w _ hx267_1)).trans hx267_1; replace hx267_2 := (HB.out.cell (World.block_lt_of_cell? w _ hx267_2)).trans hx267_2; replace hx267_3 := (HB.out.cell (World.block_lt_of_cell? w _ hx267_3)).trans hx267_3; replace hx267_4 := (HB.out.cell (World.block_lt_of_cell? w _ hx267_4)).trans hx267_4; have HR267_4 := Aside0.mk hi267_4; have HC267_4 := Aside0.mk hl267_4; clear hi267_4 hl267_4; replace p267 := eq_true p267; replace q267 := eq_true q267) | ((with_reducible refine gate_callee (f := 24) rfl ?_); refine goesL_ (some 12) rfl rfl Try.func24 (by kernel_rfl) rfl #[.agg #[.bool ((rd_T35 l0 t266).f0), .int .i64 ((rd_T35 l0 t266).f1), .bool ((rd_T35 l0 t266).f2), .int .i64 ((rd_T35 l0 t266).f3), .slice A267_4 ((rd_T35 l0 t266).f4).length c267_4]] rfl (by (try simp only [List.map_toArray, List.map_cons, List.map_nil]); first | done | rfl | (simp only [List.length_drop, List.length_take]; rfl)) ?_; (with_reducible refine (phaetonref06_Rank.calls k ((rd_T35 l0 t266).f0) ((rd_T35 l0 t266).f1) ((rd_T35 l0 t266).f2) ((rd_T35 l0 t266).f3) _ _ ((rd_T35 l0 t266).f4) t268 _ ?side1 ?side2 A8.out).mono ?_); (case side1 => repeat (first | exact (Kd.C_below HR267_4.out HB.out) | (with_reducible refine Kd.C_alloc ?_ _) | (with_reducible refine Kd.C_drewN ?_ _) | (with_reducible refine Kd.C_drew ?_))); (case side2 => exact HC267_4.out); rintro e w10 ⟨v269, rfl, ho0, hb⟩; refine ⟨_, rfl, ?_⟩; have n0_ := Aside0.mk (Kd.R_lower ho0 (below_size (by repeat (first | (with_reducible first | exact HB.out | apply below_alloc | apply pw_below_drewN | apply below_drew1) | exact HB.out)))); have n1_ := Aside0.mk (below_step (by repeat (first | (with_reducible first | exact HB.out | apply below_alloc | apply pw_below_drewN | apply below_drew1) | exact HB.out)) hb); clear HB; have HO270 := n0_; have HB := n1_; clear n0_ n1_; (try clear hb); (try clear hb2); (try clear hk); (try clear hi); (try clear ho0)))
        go_ret
        exact ⟨_, by first | rfl | (simp [errW_none, errW_some] <;> rfl) | (simp [*, errW_none, errW_some] <;> rfl), by (with_reducible repeat (first | apply Kd.R_alloc | apply Kd.R_drewN | apply Kd.R_drew)); exact HO270.out, by repeat (first | (with_reducible first | exact HB.out | apply below_alloc | apply pw_below_drewN | apply below_drew1) | exact HB.out)⟩
      · rw [if_neg c7] at H
        exact absurd H (by simp)
    · rw [if_neg c6] at H
      exact absurd H (by simp)

end Go.Proofs.Ytcdbndjicjghgaa.Px

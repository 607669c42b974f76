-- Written by myprint.py, a program of this session's, over the kit's print.py; not a text of print.sh's own.
import Derived.Test.YtcdbndjicjghgaaPx0
import Derived.Test.YtcdbndjicjghgaaPx1
import Derived.Test.YtcdbndjicjghgaaPx2
import Derived.Test.YtcdbndjicjghgaaPx3
import Derived.Test.YtcdbndjicjghgaaPx4
import Derived.Test.YtcdbndjicjghgaaPx5
namespace Go.Proofs.Ytcdbndjicjghgaa.Px
open Go.RowKit Go.Proofs.YtcdbndjicjghgaaW.PrintWords Go.Proofs.YtcdbndjicjghgaaW.PrintLast Go.Proofs.YtcdbndjicjghgaaW.PrintMore
attribute [local go_sem] max2_int min2_int max_two min_two max_three min_three max_four min_four   -- for this text's walks alone
set_option linter.unusedVariables false
set_option linter.unusedSimpArgs false

/-! ### phaetonlaw06_ArbRounds: function 9 -/
mutual
def phaetonlaw06_ArbRounds.l0 : Nat → List (S35) → Bool → List (S35) → List Int → Int → Option (Bool)
  | 0, _, _, _, _, _ => none
  | k + 1, x0, x3, x4, x5, x6 => if x6 < (x0.length : Int) then ((arb_Win.f x4).bind fun t514 => (if t514 < 0 then (phaetonlaw06_ArbRounds.j1 k x0 x3 x4 x5 x6 t514 true) else (phaetonlaw06_ArbRounds.j1 k x0 x3 x4 x5 x6 t514 (decide (t514 ≥ (x4.length : Int)))))) else ((arb_Win.f x4).bind fun t513 => (if t513 = (-1) then (if x3 = true then (some true) else (none)) else (none)))
def phaetonlaw06_ArbRounds.j1 : Nat → List (S35) → Bool → List (S35) → List Int → Int → Int → Bool → Option (Bool)
  | 0, _, _, _, _, _, _, _ => none
  | k + 1, x0, x3, x4, x5, x6, x7, x32 => if x32 = true then (none) else (if 0 ≤ x7 then (if x7 < (x4.length : Int) then ((phaetonref06_Rank.f k ((rd_T35 x4 x7).f0) ((rd_T35 x4 x7).f1) ((rd_T35 x4 x7).f2) ((rd_T35 x4 x7).f3) ((rd_T35 x4 x7).f4)).bind fun t516 => (if x6 > 0 then ((phaetonref06_Less.f k t516 x5).bind fun t519 => (if t519 = true then (none) else ((some (([] : List (S35)) : List (S35))).bind fun y520 => (if x7 ≤ (x4.length : Int) then ((some (x4.take (x7 : Int).toNat : List (S35))).bind fun y523 => (if y520.length + y523.length < 2513169434916 then ((some (y520 ++ y523 : List (S35))).bind fun y528 => (if 0 ≤ (wrap64 (x7 + 1)) then (if (wrap64 (x7 + 1)) ≤ (x4.length : Int) then ((some (x4.drop ((wrap64 (x7 + 1)) : Int).toNat : List (S35))).bind fun y531 => (if y528.length + y531.length < 2513169434916 then (phaetonlaw06_ArbRounds.l0 k x0 x3 (y528 ++ y531) t516 (wrap64 (x6 + 1))) else (none))) else (none)) else (none))) else (none))) else (none))))) else ((some (([] : List (S35)) : List (S35))).bind fun y539 => (if x7 ≤ (x4.length : Int) then ((some (x4.take (x7 : Int).toNat : List (S35))).bind fun y542 => (if y539.length + y542.length < 2513169434916 then ((some (y539 ++ y542 : List (S35))).bind fun y547 => (if 0 ≤ (wrap64 (x7 + 1)) then (if (wrap64 (x7 + 1)) ≤ (x4.length : Int) then ((some (x4.drop ((wrap64 (x7 + 1)) : Int).toNat : List (S35))).bind fun y550 => (if y547.length + y550.length < 2513169434916 then (phaetonlaw06_ArbRounds.l0 k x0 x3 (y547 ++ y550) t516 (wrap64 (x6 + 1))) else (none))) else (none)) else (none))) else (none))) else (none))))) else (none)) else (none))
end
def phaetonlaw06_ArbRounds.f (k : Nat) (l0 : List (S35)) : Option (Bool) := (phaetonlaw06_head.f k).bind fun t500 => ((phaetonref06_Frames.f k l0 8).bind fun t501 => ((some (([] : List (S35)) : List (S35))).bind fun y504 => (if y504.length + t501.length < 2513169434916 then (phaetonlaw06_ArbRounds.l0 k t501 t500 (y504 ++ t501) (([] : List Int)) 0) else (none))))
theorem phaetonlaw06_ArbRounds.mono_l : ∀ k, (∀ y0 y1 y2 y3 y4, LeO (phaetonlaw06_ArbRounds.l0 k y0 y1 y2 y3 y4) (phaetonlaw06_ArbRounds.l0 (k + 1) y0 y1 y2 y3 y4)) ∧ (∀ y0 y1 y2 y3 y4 y5 y6, LeO (phaetonlaw06_ArbRounds.j1 k y0 y1 y2 y3 y4 y5 y6) (phaetonlaw06_ArbRounds.j1 (k + 1) y0 y1 y2 y3 y4 y5 y6))
  | 0 => ⟨fun _ _ _ _ _ r h => by simp [phaetonlaw06_ArbRounds.l0] at h, fun _ _ _ _ _ _ _ r h => by simp [phaetonlaw06_ArbRounds.j1] at h⟩
  | k + 1 => by
    obtain ⟨ih0, ih1⟩ := phaetonlaw06_ArbRounds.mono_l k
    refine ⟨?_, ?_⟩
    · intro y0 y1 y2 y3 y4
      unfold phaetonlaw06_ArbRounds.l0
      repeat' first
      | (with_reducible exact ih0 _ _ _ _ _)
      | (with_reducible exact ih1 _ _ _ _ _ _ _)
      | (with_reducible exact phaetonlaw06_head.mono _)
      | (with_reducible exact phaetonref06_Frames.mono _ _ _)
      | (with_reducible exact phaetonref06_Less.mono _ _ _)
      | (with_reducible exact phaetonref06_Rank.mono _ _ _ _ _ _)
      | (with_reducible exact LeO.refl _)
      | (with_reducible exact LeO.none _)
      | (with_reducible refine LeO.ite ?_ ?_)
      | (with_reducible refine LeO.bind ?_ (fun _ => ?_))
      | exact ih0 _ _ _ _ _
      | exact ih1 _ _ _ _ _ _ _
      | exact phaetonlaw06_head.mono _
      | exact phaetonref06_Frames.mono _ _ _
      | exact phaetonref06_Less.mono _ _ _
      | exact phaetonref06_Rank.mono _ _ _ _ _ _
      | exact LeO.none _
      | refine LeO.ite ?_ ?_
      | refine LeO.bind ?_ (fun _ => ?_)
    · intro y0 y1 y2 y3 y4 y5 y6
      unfold phaetonlaw06_ArbRounds.j1
      repeat' first
      | (with_reducible exact ih0 _ _ _ _ _)
      | (with_reducible exact ih1 _ _ _ _ _ _ _)
      | (with_reducible exact phaetonlaw06_head.mono _)
      | (with_reducible exact phaetonref06_Frames.mono _ _ _)
      | (with_reducible exact phaetonref06_Less.mono _ _ _)
      | (with_reducible exact phaetonref06_Rank.mono _ _ _ _ _ _)
      | (with_reducible exact LeO.refl _)
      | (with_reducible exact LeO.none _)
      | (with_reducible refine LeO.ite ?_ ?_)
      | (with_reducible refine LeO.bind ?_ (fun _ => ?_))
      | exact ih0 _ _ _ _ _
      | exact ih1 _ _ _ _ _ _ _
      | exact phaetonlaw06_head.mono _
      | exact phaetonref06_Frames.mono _ _ _
      | exact phaetonref06_Less.mono _ _ _
      | exact phaetonref06_Rank.mono _ _ _ _ _ _
      | exact LeO.none _
      | refine LeO.ite ?_ ?_
      | refine LeO.bind ?_ (fun _ => ?_)
theorem phaetonlaw06_ArbRounds.mono : ∀ a0 k, LeO (phaetonlaw06_ArbRounds.f k a0) (phaetonlaw06_ArbRounds.f (k + 1) a0) := by
  intro a0 k
  obtain ⟨ih0, ih1⟩ := phaetonlaw06_ArbRounds.mono_l k
  unfold phaetonlaw06_ArbRounds.f
  repeat' first
      | (with_reducible exact ih0 _ _ _ _ _)
      | (with_reducible exact ih1 _ _ _ _ _ _ _)
      | (with_reducible exact phaetonlaw06_head.mono _)
      | (with_reducible exact phaetonref06_Frames.mono _ _ _)
      | (with_reducible exact phaetonref06_Less.mono _ _ _)
      | (with_reducible exact phaetonref06_Rank.mono _ _ _ _ _ _)
      | (with_reducible exact LeO.refl _)
      | (with_reducible exact LeO.none _)
      | (with_reducible refine LeO.ite ?_ ?_)
      | (with_reducible refine LeO.bind ?_ (fun _ => ?_))
      | exact ih0 _ _ _ _ _
      | exact ih1 _ _ _ _ _ _ _
      | exact phaetonlaw06_head.mono _
      | exact phaetonref06_Frames.mono _ _ _
      | exact phaetonref06_Less.mono _ _ _
      | exact phaetonref06_Rank.mono _ _ _ _ _ _
      | exact LeO.none _
      | refine LeO.ite ?_ ?_
      | refine LeO.bind ?_ (fun _ => ?_)
set_option maxHeartbeats 8000000 in
set_option maxRecDepth 100000 in
theorem phaetonlaw06_ArbRounds.calls (k : Nat) (A0 : Option Addr) (c0 : Nat) (l0 : List (S35)) (r : Bool) (w : World) (hr0 : Kd.C k35 w A0 l0.length l0) (hc0 : l0.length ≤ c0) (h : phaetonlaw06_ArbRounds.f k l0 = some r) :
    Calls Try.prog 9 #[.slice A0 l0.length c0] w fun e w' => e = .returned (.bool r) ∧ Below w.heap.size w w' := by
  have hu35 := Try.underlying35
  have HR0 := Aside0.mk hr0
  have HC0 := Aside0.mk hc0
  clear hr0 hc0
  have HB := Aside0.mk (Below.refl w.heap.size w)
  have H : ((phaetonlaw06_head.f k).bind fun t500 => ((phaetonref06_Frames.f k l0 8).bind fun t501 => ((some (([] : List (S35)) : List (S35))).bind fun y504 => (if y504.length + t501.length < 2513169434916 then (phaetonlaw06_ArbRounds.l0 k t501 t500 (y504 ++ t501) (([] : List Int)) 0) else (none))))) = some r := h
  clear h
  replace H := Option.bind_eq_some_iff.mp H
  obtain ⟨t500, A20, H⟩ := H
  replace H : ((phaetonref06_Frames.f k l0 8).bind fun t501 => ((some (([] : List (S35)) : List (S35))).bind fun y504 => (if y504.length + t501.length < 2513169434916 then (phaetonlaw06_ArbRounds.l0 k t501 t500 (y504 ++ t501) (([] : List Int)) 0) else (none)))) = some r := H
  have A2 := Aside0.mk A20
  clear A20
  replace H := Option.bind_eq_some_iff.mp H
  obtain ⟨t501, A30, H⟩ := H
  replace H : ((some (([] : List (S35)) : List (S35))).bind fun y504 => (if y504.length + t501.length < 2513169434916 then (phaetonlaw06_ArbRounds.l0 k t501 t500 (y504 ++ t501) (([] : List Int)) 0) else (none))) = some r := H
  have A3 := Aside0.mk A30
  clear A30
  obtain ⟨y504, hy504⟩ : ∃ y_ : List (S35), y_ = (([] : List (S35))) := ⟨_, rfl⟩
  replace H : (if y504.length + t501.length < 2513169434916 then (phaetonlaw06_ArbRounds.l0 k t501 t500 (y504 ++ t501) (([] : List Int)) 0) else (none)) = some r := by first | (rw [hy504]; with_reducible exact H) | (have H2_ := (Option.bind_some _ _).symm.trans H; rw [hy504]; with_reducible exact H2_) | (have H2_ := (Option.bind_some _ _).symm.trans H; with_reducible exact H2_) | with_reducible exact H | (rw [hy504]; exact H) | exact H
  have Ny504 := Aside0.mk hy504
  clear hy504
  by_cases c4 : y504.length + t501.length < 2513169434916
  · rw [if_pos c4] at H
    have LMc4 := Aside0.mk c4
    clear c4
    obtain ⟨y507, hy507⟩ : ∃ y_ : List (S35), y_ = (y504 ++ t501) := ⟨_, rfl⟩
    replace H : (phaetonlaw06_ArbRounds.l0 k t501 t500 y507 (([] : List Int)) 0) = some r := by first | (rw [hy507]; with_reducible exact H) | (have H2_ := (Option.bind_some _ _).symm.trans H; rw [hy507]; with_reducible exact H2_) | (have H2_ := (Option.bind_some _ _).symm.trans H; with_reducible exact H2_) | with_reducible exact H | (rw [hy507]; exact H) | exact H
    have Ny507 := Aside0.mk hy507
    clear hy507
    obtain ⟨y510, hy510⟩ : ∃ y_ : List Int, y_ = (([] : List Int)) := ⟨_, rfl⟩
    replace H : (phaetonlaw06_ArbRounds.l0 k t501 t500 y507 y510 0) = some r := by first | (rw [hy510]; with_reducible exact H) | (have H2_ := (Option.bind_some _ _).symm.trans H; rw [hy510]; with_reducible exact H2_) | (have H2_ := (Option.bind_some _ _).symm.trans H; with_reducible exact H2_) | with_reducible exact H | (rw [hy510]; exact H) | exact H
    have Ny510 := Aside0.mk hy510
    clear hy510
    have H' := Aside0.mk H
    clear H
    go_enter Try.func9, Try.ntmps9
    (try simp only [List.append])
    go_wp2_with (first | ((with_reducible refine gate_callee (f := 11) rfl ?_); refine goesL_ (some 10) rfl rfl Try.func11 (by kernel_rfl) rfl #[] rfl (by (try simp only [List.map_toArray, List.map_cons, List.map_nil]); first | done | rfl | (simp only [List.length_drop, List.length_take]; rfl)) ?_; (with_reducible refine (phaetonlaw06_head.calls k  t500 _ A2.out).mono ?_); rintro e w5 ⟨rfl, hb⟩; refine ⟨_, rfl, ?_⟩; have n0_ := Aside0.mk (below_step (by repeat (first | (with_reducible first | exact HB.out | apply below_alloc | apply pw_below_drewN | apply below_drew1) | exact HB.out)) hb); clear HB; have HB := n0_; clear n0_; (try clear hb); (try clear hb2); (try clear hk); (try clear hi)) | ((with_reducible refine gate_callee (f := 12) rfl ?_); refine goesL_ (some 12) rfl rfl Try.func12 (by kernel_rfl) rfl #[.slice A0 l0.length c0, .int .i64 8] rfl (by (try simp only [List.map_toArray, List.map_cons, List.map_nil]); first | done | rfl | (simp only [List.length_drop, List.length_take]; rfl)) ?_; (with_reducible refine (phaetonref06_Frames.calls k _ _ l0 8 t501 _ ?side1 ?side2 A3.out).mono ?_); (case side1 => repeat (first | exact (Kd.C_below HR0.out HB.out) | (with_reducible refine Kd.C_alloc ?_ _) | (with_reducible refine Kd.C_drewN ?_ _) | (with_reducible refine Kd.C_drew ?_))); (case side2 => exact HC0.out); rintro e w6 ⟨v502, rfl, ho0, hb⟩; refine ⟨_, rfl, ?_⟩; have n0_ := Aside0.mk (Kd.N_lower (Kd.N_mono (ok' := fun k_ => True) (Kd.S_N (Kd.S_bound ho0)) (fun k_ hk_ => trivial)) (below_size (by repeat (first | (with_reducible first | exact HB.out | apply below_alloc | apply pw_below_drewN | apply below_drew1) | exact HB.out)))); have n1_ := Aside0.mk (below_step (by repeat (first | (with_reducible first | exact HB.out | apply below_alloc | apply pw_below_drewN | apply below_drew1) | exact HB.out)) hb); clear HB; have HO503 := n0_; have HB := n1_; clear n0_ n1_; (try clear hb); (try clear hb2); (try clear hk); (try clear hi); (try clear ho0)) | ((with_reducible refine gate_dst (N := 13) rfl ?_); (try (refine gate_guard (by rfl) ?_; dsimp only)); refine Kd.N_lit k35 _ 35 ?hg (N' := 13) ?hd (xs := ([] : List (S35))) (inner := []) (ok := (fun k_ => some k_ ≠ (v502 : Value).ownBlock)) (okp := (fun k_ => some k_ ≠ (v502 : Value).ownBlock)) ?hr ?hp (fun _ hk => hk) ((show ∀ k_, w6.heap.size ≤ k_ → (fun k_ => some k_ ≠ (v502 : Value).ownBlock) k_ from fun k_ hk => Kd.fresh' (Kd.N_lt (by (with_reducible repeat (first | apply Kd.N_alloc | apply Kd.N_drewN | apply Kd.N_drew)); exact HO503.out)) k_ hk) _ (Nat.le_refl _)) (Below.refl _ _) (Nat.le_refl _) (by simp) ?_; (case hd => rfl); (case hg => rfl); (case hr => first | (go_simp; done) | (go_simp; rfl)); (case hp => exact (Reps.none _ _)); intro v505 w7 ho8 hb hg_ hnew_; clear hg_ hnew_; (first | rw [← Ny504.out] at ho8 | (simp only [Int.reduceToNat] at ho8; rw [← Ny504.out] at ho8)); have n0_ := Aside0.mk (Kd.N_elder' (by (with_reducible repeat (first | apply Kd.N_alloc | apply Kd.N_drewN | apply Kd.N_drew)); exact HO503.out) (Kd.N_base ho8) hb); have n1_ := Aside0.mk (Kd.N_lower ho8 (below_size (by repeat (first | (with_reducible first | exact HB.out | apply below_alloc | apply pw_below_drewN | apply below_drew1) | exact HB.out)))); have n2_ := Aside0.mk (below_step (by repeat (first | (with_reducible first | exact HB.out | apply below_alloc | apply pw_below_drewN | apply below_drew1) | exact HB.out)) hb); clear HO503; clear HB; have HO503 := n0_; have HO506 := n1_; have HB := n2_; clear n0_ n1_ n2_; clear hb ho8; obtain ⟨Ao10, co10, eo10⟩ := Kd.N_slice HO503.out; subst eo10) | ((with_reducible refine gate_builtin (b := .append) (xs := #[.tmp 13, .tmp 14]) rfl ?_); (try (refine gate_guard (by rfl) ?_; dsimp only)); at_builtin; refine Kd.N_append_rows k35 (w0 := w) w.heap.size rfl (.tmp 13) (.tmp 14) 22 35 (.agg #[(.bool false), (.int .i64 0), (.bool false), (.int .i64 0), (.slice none 0 0)]) 56 rfl Try.underlying22 info35 rfl (by decide) (by omega) v505 y504 t501 _ _ _ (fun _ => True) (fun k_ => ((fun _ => True)) k_ ∧ some k_ ≠ (v505 : Value).ownBlock) rfl rfl ?aO ?aR (fun _ hk => hk) ?aF ?aB ?aS ?aL ?_; (case aR => exact (by skip; exact Kd.N_F (Kd.N_mono (ok' := (fun k_ => ((fun _ => True)) k_ ∧ some k_ ≠ (v505 : Value).ownBlock)) (HO503.out) (fun k_ hk => ⟨trivial, hk.2⟩)))); (case aB => exact (by repeat (first | (with_reducible first | exact HB.out | apply below_alloc | apply pw_below_drewN | apply below_drew1) | exact HB.out))); (case aF => exact (fun _ _ => trivial)); (case aO => exact (by (with_reducible repeat (first | apply Kd.N_alloc | apply Kd.N_drewN | apply Kd.N_drew)); exact Kd.N_mono HO506.out (fun _ hk => trivial))); (case aS => exact (below_size (by repeat (first | (with_reducible first | exact HB.out | apply below_alloc | apply pw_below_drewN | apply below_drew1) | exact HB.out)))); (case aL => have := LMc4.out; omega); intro v508 w9 ho hb hg hat; rw [← Ny507.out] at ho; have n0_ := Aside0.mk (Kd.N_afterv (ok := (fun _ => True)) (by (with_reducible repeat (first | apply Kd.N_alloc | apply Kd.N_drewN | apply Kd.N_drew)); exact HO503.out) hg hat); have n1_ := Aside0.mk (hb); have n2_ := Aside0.mk (ho); clear HO503; clear HB; clear HO506; have HO503 := n0_; have HB := n1_; have HO509 := n2_; clear n0_ n1_ n2_; clear ho hb hg hat) | ((with_reducible refine gate_dst (N := 16) rfl ?_); (try (refine gate_guard (by rfl) ?_; dsimp only)); refine Kd.R_lit (Kd.int .i64) _ 3 ?hg (N := 16) ?hd (xs := ([] : List Int)) (inner := []) (ok := fun _ => True) (okp := fun _ => True) ?hr ?hp (fun _ hk => hk) trivial (Below.refl _ _) (Nat.le_refl _) (by simp) ?_; (case hd => rfl); (case hg => rfl); (case hr => first | (go_simp; done) | (go_simp; rfl)); (case hp => exact (Reps.none _ _)); intro v511 w11 ho12 hb hg_ hnew_; clear hg_ hnew_; (first | rw [← Ny510.out] at ho12 | (simp only [Int.reduceToNat] at ho12; rw [← Ny510.out] at ho12)); have n0_ := Aside0.mk (Kd.N_elder' (by (with_reducible repeat (first | apply Kd.N_alloc | apply Kd.N_drewN | apply Kd.N_drew)); exact HO503.out) (Kd.R_base ho12) hb); have n1_ := Aside0.mk (Kd.N_elder' (by (with_reducible repeat (first | apply Kd.N_alloc | apply Kd.N_drewN | apply Kd.N_drew)); exact HO509.out) (Kd.R_base ho12) hb); have n2_ := Aside0.mk (Kd.R_lower ho12 (below_size (by repeat (first | (with_reducible first | exact HB.out | apply below_alloc | apply pw_below_drewN | apply below_drew1) | exact HB.out)))); have n3_ := Aside0.mk (below_step (by repeat (first | (with_reducible first | exact HB.out | apply below_alloc | apply pw_below_drewN | apply below_drew1) | exact HB.out)) hb); clear HO503; clear HO509; clear HB; have HO503 := n0_; have HO509 := n1_; have HO512 := n2_; have HB := n3_; clear n0_ n1_ n2_ n3_; clear hb ho12))
    go_loopg [4, 5, 6] k (fun kq v4 v5 v6 w' => ∃ (x4_1 : List (S35)) (x5_1 : List Int) (x6_1 : Int), v6 = .int .i64 x6_1 ∧ Aside0 (phaetonlaw06_ArbRounds.l0 kq t501 t500 x4_1 x5_1 x6_1 = some r) ∧ Aside0 (kq ≤ k) ∧ Aside0 (Kd.N k35 35 w' w.heap.size (fun k_ => some k_ ≠ (v4 : Value).ownBlock ∧ some k_ ≠ (v5 : Value).ownBlock) (.slice Ao10 t501.length co10) t501) ∧ Aside0 (Kd.N k35 35 w' w.heap.size (fun k_ => some k_ ≠ (v5 : Value).ownBlock) v4 x4_1) ∧ Aside0 (Kd.R (Kd.int .i64) 3 w' w.heap.size (fun _ => True) v5 x5_1) ∧ Aside0 (Below w.heap.size w w'))
    case atStart => exact ⟨(y507), (y510), (0), (by first | rfl | (simp; done) | (simp [*]; done)), H', ⟨Nat.le_refl _⟩, ⟨by (with_reducible repeat (first | apply Kd.N_alloc | apply Kd.N_drewN | apply Kd.N_drew)); exact Kd.N_mono HO503.out (fun k_ hk => by first | exact ⟨hk.1.2, hk.2⟩ | (refine ⟨?_, ?_⟩ <;> first | exact hk.1 | exact hk.2 | exact hk.1.2 | exact hk.2.2 | exact hk.1.1 | exact hk.2.1))⟩, ⟨by (with_reducible repeat (first | apply Kd.N_alloc | apply Kd.N_drewN | apply Kd.N_drew)); exact Kd.N_mono HO509.out (fun _ hk => hk.2)⟩, ⟨by (with_reducible repeat (first | apply Kd.R_alloc | apply Kd.R_drewN | apply Kd.R_drew)); exact HO512.out⟩, ⟨by repeat (first | (with_reducible first | exact HB.out | apply below_alloc | apply pw_below_drewN | apply below_drew1) | exact HB.out)⟩⟩
    case round =>
      clear H'
      try clear c1
      try clear p2
      try clear c4
      try clear c9
      try clear c11
      try clear c12
      obtain ⟨x4_1, x5_1, x6_1, rfl, HA, HK1, HO_0, HO_4, HO_5, HB⟩ := hrel
      cases gk with
      | zero => exact absurd HA.out (by simp [phaetonlaw06_ArbRounds.l0])
      | succ k1 =>
        have H := HA.out
        clear HA
        simp only [phaetonlaw06_ArbRounds.l0] at H
        by_cases c13 : x6_1 < (t501.length : Int)
        · rw [if_pos c13] at H
          have c13b0 : decide (x6_1 < (t501.length : Int)) = true := decide_eq_true c13
          clear c13
          replace H := Option.bind_eq_some_iff.mp H
          obtain ⟨t514, A140, H⟩ := H
          replace H : (if t514 < 0 then (phaetonlaw06_ArbRounds.j1 k1 t501 t500 x4_1 x5_1 x6_1 t514 true) else (phaetonlaw06_ArbRounds.j1 k1 t501 t500 x4_1 x5_1 x6_1 t514 (decide (t514 ≥ (x4_1.length : Int))))) = some r := H
          have A14 := Aside0.mk A140
          clear A140
          have HC15 := Aside0.mk H
          clear H
          obtain ⟨Ao16, co16, eo16⟩ := Kd.N_slice HO_4.out
          subst eo16
          go_upto_region 8 with (first | ((with_reducible refine gate_callee (f := 14) rfl ?_); refine goesL_ (some 24) rfl rfl Try.func14 (by kernel_rfl) rfl #[.slice Ao16 x4_1.length co16] rfl (by (try simp only [List.map_toArray, List.map_cons, List.map_nil]); first | done | rfl | (simp only [List.length_drop, List.length_take]; rfl)) ?_; (with_reducible refine (arb_Win.calls _ _ x4_1 t514 _ ?side1 ?side2 A14.out).mono ?_); (case side1 => repeat (first | exact (Kd.N_reads' HO_4.out).2.2 | (with_reducible refine Kd.C_alloc ?_ _) | (with_reducible refine Kd.C_drewN ?_ _) | (with_reducible refine Kd.C_drew ?_))); (case side2 => exact (Kd.N_reads' HO_4.out).2.1); rintro e w17 ⟨rfl, hb⟩; refine ⟨_, rfl, ?_⟩; have n0_ := Aside0.mk (Kd.N_below (by (with_reducible repeat (first | apply Kd.N_alloc | apply Kd.N_drewN | apply Kd.N_drew)); exact HO_0.out) hb); have n1_ := Aside0.mk (Kd.N_below (by (with_reducible repeat (first | apply Kd.N_alloc | apply Kd.N_drewN | apply Kd.N_drew)); exact HO_4.out) hb); have n2_ := Aside0.mk (Kd.R_below (by (with_reducible repeat (first | apply Kd.R_alloc | apply Kd.R_drewN | apply Kd.R_drew)); exact HO_5.out) hb); have n3_ := Aside0.mk (below_step (by repeat (first | (with_reducible first | exact HB.out | apply below_alloc | apply pw_below_drewN | apply below_drew1) | exact HB.out)) hb); clear HO_0; clear HO_4; clear HO_5; clear HB; have HO_0 := n0_; have HO_4 := n1_; have HO_5 := n2_; have HB := n3_; clear n0_ n1_ n2_ n3_; (try clear hb); (try clear hb2); (try clear hk); (try clear hi)))
          (try simp only [Act.put, List.setIfInBounds_toArray, List.set_cons_zero, List.set_cons_succ])
          go_cut [32] (fun v32 wc => ∃ (kq : Nat) (x32_14 : Bool), v32 = .bool x32_14 ∧ Aside0 (phaetonlaw06_ArbRounds.j1 kq t501 t500 x4_1 x5_1 x6_1 t514 x32_14 = some r) ∧ Aside0 (kq ≤ k1) ∧ Aside0 (Kd.N k35 35 wc w.heap.size (fun k_ => some k_ ≠ ((.slice Ao16 x4_1.length co16) : Value).ownBlock ∧ some k_ ≠ (u5 : Value).ownBlock) (.slice Ao10 t501.length co10) t501) ∧ Aside0 (Kd.N k35 35 wc w.heap.size (fun k_ => some k_ ≠ (u5 : Value).ownBlock) (.slice Ao16 x4_1.length co16) x4_1) ∧ Aside0 (Kd.R (Kd.int .i64) 3 wc w.heap.size (fun _ => True) u5 x5_1) ∧ Aside0 (Below w.heap.size w wc))
          case first =>
            have H := HC15.out
            clear HC15
            by_cases c18 : t514 < 0
            · rw [if_pos c18] at H
              have c18b0 : decide (t514 < 0) = true := decide_eq_true c18
              clear c18
              (first | rw [c18b0] | (simp only [i64_w, i32_w]; rw [c18b0]) | skip)
              have H' := Aside0.mk H
              clear H
              go_wp2
              go_meet
              case rel => exact ⟨_, (true), (by first | rfl | (simp; done) | (simp [*]; done)), H', ⟨by have := HK1.out; first | omega | exact Nat.le_refl _⟩, ⟨by (with_reducible repeat (first | apply Kd.N_alloc | apply Kd.N_drewN | apply Kd.N_drew)); exact HO_0.out⟩, ⟨by (with_reducible repeat (first | apply Kd.N_alloc | apply Kd.N_drewN | apply Kd.N_drew)); exact HO_4.out⟩, ⟨by (with_reducible repeat (first | apply Kd.R_alloc | apply Kd.R_drewN | apply Kd.R_drew)); exact HO_5.out⟩, ⟨by repeat (first | (with_reducible first | exact HB.out | apply below_alloc | apply pw_below_drewN | apply below_drew1) | exact HB.out)⟩⟩
            · rw [if_neg c18] at H
              have c18b0 : decide (t514 < 0) = false := decide_eq_false c18
              clear c18
              (first | rw [c18b0] | (simp only [i64_w, i32_w]; rw [c18b0]) | skip)
              have H' := Aside0.mk H
              clear H
              go_wp2
              go_meet
              case rel => exact ⟨_, (decide (t514 ≥ (x4_1.length : Int))), (by first | rfl | (simp; done) | (simp [*]; done)), H', ⟨by have := HK1.out; first | omega | exact Nat.le_refl _⟩, ⟨by (with_reducible repeat (first | apply Kd.N_alloc | apply Kd.N_drewN | apply Kd.N_drew)); exact HO_0.out⟩, ⟨by (with_reducible repeat (first | apply Kd.N_alloc | apply Kd.N_drewN | apply Kd.N_drew)); exact HO_4.out⟩, ⟨by (with_reducible repeat (first | apply Kd.R_alloc | apply Kd.R_drewN | apply Kd.R_drew)); exact HO_5.out⟩, ⟨by repeat (first | (with_reducible first | exact HB.out | apply below_alloc | apply pw_below_drewN | apply below_drew1) | exact HB.out)⟩⟩
          case rest =>
            clear HC15
            try clear c1
            try clear p2
            try clear c4
            try clear c9
            try clear c11
            try clear c12
            try clear c13
            try clear c13b0
            try clear c14
            try clear c18
            try clear c18b0
            try clear p2
            obtain ⟨kq, x32_14, rfl, HA, HJ14, HO_0, HO_4, HO_5, HB⟩ := hcut
            cases kq with
            | zero => exact absurd HA.out (by simp [phaetonlaw06_ArbRounds.j1])
            | succ kj14 =>
              have H := HA.out
              clear HA
              simp only [phaetonlaw06_ArbRounds.j1] at H
              by_cases c19 : x32_14 = true
              · subst c19
                have H1 : (none) = some r := by rw [if_pos rfl] at H; exact H
                clear H
                have H := H1
                clear H1
                exact absurd H (by simp)
              · replace c19 := Bool.eq_false_iff.mpr c19
                subst c19
                have H1 : (if 0 ≤ t514 then (if t514 < (x4_1.length : Int) then ((phaetonref06_Rank.f kj14 ((rd_T35 x4_1 t514).f0) ((rd_T35 x4_1 t514).f1) ((rd_T35 x4_1 t514).f2) ((rd_T35 x4_1 t514).f3) ((rd_T35 x4_1 t514).f4)).bind fun t516 => (if x6_1 > 0 then ((phaetonref06_Less.f kj14 t516 x5_1).bind fun t519 => (if t519 = true then (none) else ((some (([] : List (S35)) : List (S35))).bind fun y520 => (if t514 ≤ (x4_1.length : Int) then ((some (x4_1.take (t514 : Int).toNat : List (S35))).bind fun y523 => (if y520.length + y523.length < 2513169434916 then ((some (y520 ++ y523 : List (S35))).bind fun y528 => (if 0 ≤ (wrap64 (t514 + 1)) then (if (wrap64 (t514 + 1)) ≤ (x4_1.length : Int) then ((some (x4_1.drop ((wrap64 (t514 + 1)) : Int).toNat : List (S35))).bind fun y531 => (if y528.length + y531.length < 2513169434916 then (phaetonlaw06_ArbRounds.l0 kj14 t501 t500 (y528 ++ y531) t516 (wrap64 (x6_1 + 1))) else (none))) else (none)) else (none))) else (none))) else (none))))) else ((some (([] : List (S35)) : List (S35))).bind fun y539 => (if t514 ≤ (x4_1.length : Int) then ((some (x4_1.take (t514 : Int).toNat : List (S35))).bind fun y542 => (if y539.length + y542.length < 2513169434916 then ((some (y539 ++ y542 : List (S35))).bind fun y547 => (if 0 ≤ (wrap64 (t514 + 1)) then (if (wrap64 (t514 + 1)) ≤ (x4_1.length : Int) then ((some (x4_1.drop ((wrap64 (t514 + 1)) : Int).toNat : List (S35))).bind fun y550 => (if y547.length + y550.length < 2513169434916 then (phaetonlaw06_ArbRounds.l0 kj14 t501 t500 (y547 ++ y550) t516 (wrap64 (x6_1 + 1))) else (none))) else (none)) else (none))) else (none))) else (none))))) else (none)) else (none)) = some r := by rw [if_neg (show ¬ (false = true) by decide)] at H; exact H
                clear H
                have H := H1
                clear H1
                by_cases c20 : 0 ≤ t514
                · rw [if_pos c20] at H
                  have c20b0 : decide (0 ≤ t514) = true := decide_eq_true c20
                  clear c20
                  by_cases c21 : t514 < (x4_1.length : Int)
                  · rw [if_pos c21] at H
                    have c21b0 : decide (t514 < (x4_1.length : Int)) = true := decide_eq_true c21
                    clear c21
                    replace H := Option.bind_eq_some_iff.mp H
                    obtain ⟨t516, A220, H⟩ := H
                    replace H : (if x6_1 > 0 then ((phaetonref06_Less.f kj14 t516 x5_1).bind fun t519 => (if t519 = true then (none) else ((some (([] : List (S35)) : List (S35))).bind fun y520 => (if t514 ≤ (x4_1.length : Int) then ((some (x4_1.take (t514 : Int).toNat : List (S35))).bind fun y523 => (if y520.length + y523.length < 2513169434916 then ((some (y520 ++ y523 : List (S35))).bind fun y528 => (if 0 ≤ (wrap64 (t514 + 1)) then (if (wrap64 (t514 + 1)) ≤ (x4_1.length : Int) then ((some (x4_1.drop ((wrap64 (t514 + 1)) : Int).toNat : List (S35))).bind fun y531 => (if y528.length + y531.length < 2513169434916 then (phaetonlaw06_ArbRounds.l0 kj14 t501 t500 (y528 ++ y531) t516 (wrap64 (x6_1 + 1))) else (none))) else (none)) else (none))) else (none))) else (none))))) else ((some (([] : List (S35)) : List (S35))).bind fun y539 => (if t514 ≤ (x4_1.length : Int) then ((some (x4_1.take (t514 : Int).toNat : List (S35))).bind fun y542 => (if y539.length + y542.length < 2513169434916 then ((some (y539 ++ y542 : List (S35))).bind fun y547 => (if 0 ≤ (wrap64 (t514 + 1)) then (if (wrap64 (t514 + 1)) ≤ (x4_1.length : Int) then ((some (x4_1.drop ((wrap64 (t514 + 1)) : Int).toNat : List (S35))).bind fun y550 => (if y547.length + y550.length < 2513169434916 then (phaetonlaw06_ArbRounds.l0 kj14 t501 t500 (y547 ++ y550) t516 (wrap64 (x6_1 + 1))) else (none))) else (none)) else (none))) else (none))) else (none)))) = some r := H
                    have A22 := Aside0.mk A220
                    clear A220
                    by_cases c23 : x6_1 > 0
                    · rw [if_pos c23] at H
                      have c23b0 : decide (0 < x6_1) = true := decide_eq_true c23
                      clear c23
                      replace H := Option.bind_eq_some_iff.mp H
                      obtain ⟨t519, A240, H⟩ := H
                      replace H : (if t519 = true then (none) else ((some (([] : List (S35)) : List (S35))).bind fun y520 => (if t514 ≤ (x4_1.length : Int) then ((some (x4_1.take (t514 : Int).toNat : List (S35))).bind fun y523 => (if y520.length + y523.length < 2513169434916 then ((some (y520 ++ y523 : List (S35))).bind fun y528 => (if 0 ≤ (wrap64 (t514 + 1)) then (if (wrap64 (t514 + 1)) ≤ (x4_1.length : Int) then ((some (x4_1.drop ((wrap64 (t514 + 1)) : Int).toNat : List (S35))).bind fun y531 => (if y528.length + y531.length < 2513169434916 then (phaetonlaw06_ArbRounds.l0 kj14 t501 t500 (y528 ++ y531) t516 (wrap64 (x6_1 + 1))) else (none))) else (none)) else (none))) else (none))) else (none)))) = some r := H
                      have A24 := Aside0.mk A240
                      clear A240
                      by_cases c25 : t519 = true
                      · subst c25
                        have H1 : (none) = some r := by rw [if_pos rfl] at H; exact H
                        clear H
                        have H := H1
                        clear H1
                        exact absurd H (by simp)
                      · replace c25 := Bool.eq_false_iff.mpr c25
                        subst c25
                        have H1 : ((some (([] : List (S35)) : List (S35))).bind fun y520 => (if t514 ≤ (x4_1.length : Int) then ((some (x4_1.take (t514 : Int).toNat : List (S35))).bind fun y523 => (if y520.length + y523.length < 2513169434916 then ((some (y520 ++ y523 : List (S35))).bind fun y528 => (if 0 ≤ (wrap64 (t514 + 1)) then (if (wrap64 (t514 + 1)) ≤ (x4_1.length : Int) then ((some (x4_1.drop ((wrap64 (t514 + 1)) : Int).toNat : List (S35))).bind fun y531 => (if y528.length + y531.length < 2513169434916 then (phaetonlaw06_ArbRounds.l0 kj14 t501 t500 (y528 ++ y531) t516 (wrap64 (x6_1 + 1))) else (none))) else (none)) else (none))) else (none))) else (none))) = some r := by rw [if_neg (show ¬ (false = true) by decide)] at H; exact H
                        clear H
                        have H := H1
                        clear H1
                        obtain ⟨y520, hy520⟩ : ∃ y_ : List (S35), y_ = (([] : List (S35))) := ⟨_, rfl⟩
                        replace H : (if t514 ≤ (x4_1.length : Int) then ((some (x4_1.take (t514 : Int).toNat : List (S35))).bind fun y523 => (if y520.length + y523.length < 2513169434916 then ((some (y520 ++ y523 : List (S35))).bind fun y528 => (if 0 ≤ (wrap64 (t514 + 1)) then (if (wrap64 (t514 + 1)) ≤ (x4_1.length : Int) then ((some (x4_1.drop ((wrap64 (t514 + 1)) : Int).toNat : List (S35))).bind fun y531 => (if y528.length + y531.length < 2513169434916 then (phaetonlaw06_ArbRounds.l0 kj14 t501 t500 (y528 ++ y531) t516 (wrap64 (x6_1 + 1))) else (none))) else (none)) else (none))) else (none))) else (none)) = some r := by first | (rw [hy520]; with_reducible exact H) | (have H2_ := (Option.bind_some _ _).symm.trans H; rw [hy520]; with_reducible exact H2_) | (have H2_ := (Option.bind_some _ _).symm.trans H; with_reducible exact H2_) | with_reducible exact H | (rw [hy520]; exact H) | exact H
                        have Ny520 := Aside0.mk hy520
                        clear hy520
                        have c26b0 := eq_true (of_decide_eq_true (by first | (with_reducible assumption) | assumption) : 0 ≤ t514)
                        by_cases c27 : t514 ≤ (x4_1.length : Int)
                        · rw [if_pos c27] at H
                          have c27b0 := eq_true c27
                          have c27b1 : decide (t514 ≤ (x4_1.length : Int)) = true := decide_eq_true c27
                          clear c27
                          obtain ⟨y523, hy523⟩ : ∃ y_ : List (S35), y_ = (x4_1.take (t514 : Int).toNat) := ⟨_, rfl⟩
                          replace H : (if y520.length + y523.length < 2513169434916 then ((some (y520 ++ y523 : List (S35))).bind fun y528 => (if 0 ≤ (wrap64 (t514 + 1)) then (if (wrap64 (t514 + 1)) ≤ (x4_1.length : Int) then ((some (x4_1.drop ((wrap64 (t514 + 1)) : Int).toNat : List (S35))).bind fun y531 => (if y528.length + y531.length < 2513169434916 then (phaetonlaw06_ArbRounds.l0 kj14 t501 t500 (y528 ++ y531) t516 (wrap64 (x6_1 + 1))) else (none))) else (none)) else (none))) else (none)) = some r := by first | (rw [hy523]; with_reducible exact H) | (have H2_ := (Option.bind_some _ _).symm.trans H; rw [hy523]; with_reducible exact H2_) | (have H2_ := (Option.bind_some _ _).symm.trans H; with_reducible exact H2_) | with_reducible exact H | (rw [hy523]; exact H) | exact H
                          have Ny523 := Aside0.mk hy523
                          clear hy523
                          by_cases c28 : y520.length + y523.length < 2513169434916
                          · rw [if_pos c28] at H
                            have LMc28 := Aside0.mk c28
                            clear c28
                            obtain ⟨y528, hy528⟩ : ∃ y_ : List (S35), y_ = (y520 ++ y523) := ⟨_, rfl⟩
                            replace H : (if 0 ≤ (wrap64 (t514 + 1)) then (if (wrap64 (t514 + 1)) ≤ (x4_1.length : Int) then ((some (x4_1.drop ((wrap64 (t514 + 1)) : Int).toNat : List (S35))).bind fun y531 => (if y528.length + y531.length < 2513169434916 then (phaetonlaw06_ArbRounds.l0 kj14 t501 t500 (y528 ++ y531) t516 (wrap64 (x6_1 + 1))) else (none))) else (none)) else (none)) = some r := by first | (rw [hy528]; with_reducible exact H) | (have H2_ := (Option.bind_some _ _).symm.trans H; rw [hy528]; with_reducible exact H2_) | (have H2_ := (Option.bind_some _ _).symm.trans H; with_reducible exact H2_) | with_reducible exact H | (rw [hy528]; exact H) | exact H
                            have Ny528 := Aside0.mk hy528
                            clear hy528
                            obtain ⟨ji29, hji29⟩ : ∃ j_ : Int, (wrap64 (t514 + 1)) = j_ := ⟨_, rfl⟩
                            replace H : (if 0 ≤ (ji29) then (if (ji29) ≤ (x4_1.length : Int) then ((some (x4_1.drop ((ji29) : Int).toNat : List (S35))).bind fun y531 => (if y528.length + y531.length < 2513169434916 then (phaetonlaw06_ArbRounds.l0 kj14 t501 t500 (y528 ++ y531) t516 (wrap64 (x6_1 + 1))) else (none))) else (none)) else (none)) = some r := by first | (rw [hji29] at H; exact H) | (simp only [hji29] at H ⊢; exact H)
                            (try rw [hji29] at A22)
                            (try rw [hji29] at A24)
                            have hji29w : (IntKind.i64.wrap (t514 + 1)) = ji29 := (i64_w _).trans hji29
                            by_cases c30 : 0 ≤ (ji29)
                            · rw [if_pos c30] at H
                              have c30b0 := eq_true c30
                              have c30b1 : decide (0 ≤ (ji29)) = true := decide_eq_true c30
                              have c30m : max (ji29) 0 = (ji29) := by omega
                              clear c30
                              by_cases c31 : (ji29) ≤ (x4_1.length : Int)
                              · rw [if_pos c31] at H
                                have c31b0 := eq_true c31
                                have c31b1 : decide ((ji29) ≤ (x4_1.length : Int)) = true := decide_eq_true c31
                                clear c31
                                obtain ⟨y531, hy531⟩ : ∃ y_ : List (S35), y_ = (x4_1.drop ((ji29) : Int).toNat) := ⟨_, rfl⟩
                                replace H : (if y528.length + y531.length < 2513169434916 then (phaetonlaw06_ArbRounds.l0 kj14 t501 t500 (y528 ++ y531) t516 (wrap64 (x6_1 + 1))) else (none)) = some r := by first | (rw [hy531]; with_reducible exact H) | (have H2_ := (Option.bind_some _ _).symm.trans H; rw [hy531]; with_reducible exact H2_) | (have H2_ := (Option.bind_some _ _).symm.trans H; with_reducible exact H2_) | with_reducible exact H | (rw [hy531]; exact H) | exact H
                                have Ny531 := Aside0.mk hy531
                                clear hy531
                                by_cases c32 : y528.length + y531.length < 2513169434916
                                · rw [if_pos c32] at H
                                  have LMc32 := Aside0.mk c32
                                  clear c32
                                  obtain ⟨y536, hy536⟩ : ∃ y_ : List (S35), y_ = (y528 ++ y531) := ⟨_, rfl⟩
                                  replace H : (phaetonlaw06_ArbRounds.l0 kj14 t501 t500 y536 t516 (wrap64 (x6_1 + 1))) = some r := by first | (rw [hy536]; with_reducible exact H) | (have H2_ := (Option.bind_some _ _).symm.trans H; rw [hy536]; with_reducible exact H2_) | (have H2_ := (Option.bind_some _ _).symm.trans H; with_reducible exact H2_) | with_reducible exact H | (rw [hy536]; exact H) | exact H
                                  have Ny536 := Aside0.mk hy536
                                  clear hy536
                                  have H' := Aside0.mk H
                                  clear H
                                  have p515 : 0 ≤ (t514 : Int) := of_decide_eq_true (by first | (with_reducible assumption) | assumption)
                                  have q515 : t514 < (x4_1.length : Int) := of_decide_eq_true (by first | (with_reducible assumption) | assumption)
                                  obtain ⟨ad515, A515_4, c515_4, e515, hx515_0, hx515_1, hx515_2, hx515_3, hx515_4, hl515_4, hi515_4⟩ := at_T35 (Kd.N_reads' HO_4.out).2.2 t514 p515 q515
                                  cases e515
                                  obtain ⟨ce515, hce515, hMe515, hcc515⟩ := Kd.N_get HO_4.out z35 t514 p515 (by first | exact q515 | exact of_decide_eq_true (by first | (with_reducible assumption) | assumption) | (have e_ := (Kd.N_reads' HO_4.out).1; omega))
                                  obtain ⟨ua515_4, uc515_4, rfl, ul515_4, ge515_4⟩ := k35_openF hMe515
                                  have hv515_4 := hcc515 4 _ rfl
                                  rw [add_field _ _ 4 (by omega)] at hv515_4
                                  replace hv515_4 := Option.some.inj (hv515_4.symm.trans hx515_4)
                                  injection hv515_4 with hva_ hvn_ hvc_
                                  rw [hva_] at ge515_4
                                  rw [hvc_] at ul515_4
                                  have HL515_4 := Aside0.mk (show Kd.V (Kd.int .u8) 5 _ w.heap.size _ _ ((rd_T35 x4_1 t514).f4) from Kd.V_mk ul515_4 ge515_4)
                                  clear hva_ hvn_ hvc_ ge515_4 ul515_4
                                  clear hcc515 hce515
                                  have HR515_4 := Aside0.mk hi515_4
                                  have HC515_4 := Aside0.mk hl515_4
                                  clear hi515_4 hl515_4
                                  replace p515 := eq_true p515
                                  replace q515 := eq_true q515
                                  go_wp2_with (first | ((with_reducible refine gate_callee (f := 24) rfl ?_); refine goesL_ (some 37) rfl rfl Try.func24 (by kernel_rfl) rfl #[.agg #[.bool ((rd_T35 x4_1 t514).f0), .int .i64 ((rd_T35 x4_1 t514).f1), .bool ((rd_T35 x4_1 t514).f2), .int .i64 ((rd_T35 x4_1 t514).f3), .slice A515_4 ((rd_T35 x4_1 t514).f4).length c515_4]] rfl (by (try simp only [List.map_toArray, List.map_cons, List.map_nil]); first | done | rfl | (simp only [List.length_drop, List.length_take]; rfl)) ?_; (with_reducible refine (phaetonref06_Rank.calls kj14 ((rd_T35 x4_1 t514).f0) ((rd_T35 x4_1 t514).f1) ((rd_T35 x4_1 t514).f2) ((rd_T35 x4_1 t514).f3) _ _ ((rd_T35 x4_1 t514).f4) t516 _ ?side1 ?side2 A22.out).mono ?_); (case side1 => repeat (first | exact (by repeat (first | (with_reducible exact HR515_4.out) | (with_reducible refine Kd.C_alloc ?_ _) | (with_reducible refine Kd.C_drewN ?_ _) | (with_reducible refine Kd.C_drew ?_) | exact HR515_4.out)) | (with_reducible refine Kd.C_alloc ?_ _) | (with_reducible refine Kd.C_drewN ?_ _) | (with_reducible refine Kd.C_drew ?_))); (case side2 => exact HC515_4.out); rintro e w33 ⟨v517, rfl, ho0, hb⟩; refine ⟨_, rfl, ?_⟩; have n0_ := Aside0.mk (Kd.N_elder' (by (with_reducible repeat (first | apply Kd.N_alloc | apply Kd.N_drewN | apply Kd.N_drew)); exact HO_0.out) (Kd.R_base ho0) hb); have n1_ := Aside0.mk (Kd.N_elder' (by (with_reducible repeat (first | apply Kd.N_alloc | apply Kd.N_drewN | apply Kd.N_drew)); exact HO_4.out) (Kd.R_base ho0) hb); have n2_ := Aside0.mk (Kd.R_elder' (by (with_reducible repeat (first | apply Kd.R_alloc | apply Kd.R_drewN | apply Kd.R_drew)); exact HO_5.out) (Kd.R_base ho0) hb); have n3_ := Aside0.mk (Kd.V_elder' (by (with_reducible repeat (first | apply Kd.V_alloc | apply Kd.V_drewN | apply Kd.V_drew)); exact HL515_4.out) (Kd.R_base ho0) hb); have n4_ := Aside0.mk (Kd.R_lower (Kd.R_new' ho0 (Kd.R_lt (by (with_reducible repeat (first | apply Kd.R_alloc | apply Kd.R_drewN | apply Kd.R_drew)); exact HO_5.out))) (below_size (by repeat (first | (with_reducible first | exact HB.out | apply below_alloc | apply pw_below_drewN | apply below_drew1) | exact HB.out)))); have n5_ := Aside0.mk (Kd.C_below (by repeat (first | (with_reducible exact HR515_4.out) | (with_reducible refine Kd.C_alloc ?_ _) | (with_reducible refine Kd.C_drewN ?_ _) | (with_reducible refine Kd.C_drew ?_) | exact HR515_4.out)) hb); have n6_ := Aside0.mk (below_step (by repeat (first | (with_reducible first | exact HB.out | apply below_alloc | apply pw_below_drewN | apply below_drew1) | exact HB.out)) hb); clear HO_0; clear HO_4; clear HO_5; clear HL515_4; clear HR515_4; clear HB; have HO_0 := n0_; have HO_4 := n1_; have HO_5 := n2_; have HL515_4 := n3_; have HO518 := n4_; have HR515_4 := n5_; have HB := n6_; clear n0_ n1_ n2_ n3_ n4_ n5_ n6_; (try clear hb); (try clear hb2); (try clear hk); (try clear hi); (try clear ho0); obtain ⟨Ao34, co34, eo34⟩ := Kd.R_slice HO518.out; subst eo34; obtain ⟨Ao35, co35, eo35⟩ := Kd.R_slice HO_5.out; subst eo35) | (go_at_call 23; (with_reducible refine (phaetonref06_Less.calls kj14 _ _ t516 _ _ x5_1 false _ ?side1 ?side2 ?side3 ?side4 A24.out).mono ?_); (case side1 => repeat (first | exact (Kd.R_reads' HO518.out).2.2 | (with_reducible refine Kd.C_alloc ?_ _) | (with_reducible refine Kd.C_drewN ?_ _) | (with_reducible refine Kd.C_drew ?_))); (case side2 => exact (Kd.R_reads' HO518.out).2.1); (case side3 => repeat (first | exact (Kd.R_reads' HO_5.out).2.2 | (with_reducible refine Kd.C_alloc ?_ _) | (with_reducible refine Kd.C_drewN ?_ _) | (with_reducible refine Kd.C_drew ?_))); (case side4 => exact (Kd.R_reads' HO_5.out).2.1); rintro e w' ⟨rfl, ⟨nd, rfl⟩⟩) | ((with_reducible refine gate_dst (N := 46) rfl ?_); (try (refine gate_guard (by rfl) ?_; dsimp only)); refine Kd.N_lit k35 _ 35 ?hg (N' := 46) ?hd (xs := ([] : List (S35))) (inner := []) (ok := (fun k_ => some k_ ≠ (.slice Ao10 t501.length co10 : Value).ownBlock ∧ some k_ ≠ (.slice (some ad515) x4_1.length co16 : Value).ownBlock ∧ some k_ ≠ (.slice Ao35 x5_1.length co35 : Value).ownBlock ∧ some k_ ≠ (.slice Ao34 t516.length co34 : Value).ownBlock)) (okp := (fun k_ => some k_ ≠ (.slice Ao10 t501.length co10 : Value).ownBlock ∧ some k_ ≠ (.slice (some ad515) x4_1.length co16 : Value).ownBlock ∧ some k_ ≠ (.slice Ao35 x5_1.length co35 : Value).ownBlock ∧ some k_ ≠ (.slice Ao34 t516.length co34 : Value).ownBlock)) ?hr ?hp (fun _ hk => hk) ((show ∀ k_, w33.heap.size ≤ k_ → (fun k_ => some k_ ≠ (.slice Ao10 t501.length co10 : Value).ownBlock ∧ some k_ ≠ (.slice (some ad515) x4_1.length co16 : Value).ownBlock ∧ some k_ ≠ (.slice Ao35 x5_1.length co35 : Value).ownBlock ∧ some k_ ≠ (.slice Ao34 t516.length co34 : Value).ownBlock) k_ from fun k_ hk => ⟨Kd.fresh' (Kd.N_lt (by (with_reducible repeat (first | apply Kd.N_alloc | apply Kd.N_drewN | apply Kd.N_drew)); exact HO_0.out)) k_ hk, Kd.fresh' (Kd.N_lt (by (with_reducible repeat (first | apply Kd.N_alloc | apply Kd.N_drewN | apply Kd.N_drew)); exact HO_4.out)) k_ hk, Kd.fresh' (Kd.R_lt (by (with_reducible repeat (first | apply Kd.R_alloc | apply Kd.R_drewN | apply Kd.R_drew)); exact HO_5.out)) k_ hk, Kd.fresh' (Kd.R_lt (by (with_reducible repeat (first | apply Kd.R_alloc | apply Kd.R_drewN | apply Kd.R_drew)); exact HO518.out)) k_ hk⟩) _ (Nat.le_refl _)) (Below.refl _ _) (Nat.le_refl _) (by simp) ?_; (case hd => rfl); (case hg => rfl); (case hr => first | (go_simp; done) | (go_simp; rfl)); (case hp => exact (Reps.none _ _)); intro v521 w36 ho37 hb hg_ hnew_; clear hg_ hnew_; (first | rw [← Ny520.out] at ho37 | (simp only [Int.reduceToNat] at ho37; rw [← Ny520.out] at ho37)); have n0_ := Aside0.mk (Kd.N_elder' (by (with_reducible repeat (first | apply Kd.N_alloc | apply Kd.N_drewN | apply Kd.N_drew)); exact HO_0.out) (Kd.N_base ho37) hb); have n1_ := Aside0.mk (Kd.N_elder' (by (with_reducible repeat (first | apply Kd.N_alloc | apply Kd.N_drewN | apply Kd.N_drew)); exact HO_4.out) (Kd.N_base ho37) hb); have n2_ := Aside0.mk (Kd.R_below (by (with_reducible repeat (first | apply Kd.R_alloc | apply Kd.R_drewN | apply Kd.R_drew)); exact HO_5.out) hb); have n3_ := Aside0.mk (Kd.V_elder' (by (with_reducible repeat (first | apply Kd.V_alloc | apply Kd.V_drewN | apply Kd.V_drew)); exact HL515_4.out) (Kd.N_base ho37) hb); have n4_ := Aside0.mk (Kd.R_below (by (with_reducible repeat (first | apply Kd.R_alloc | apply Kd.R_drewN | apply Kd.R_drew)); exact HO518.out) hb); have n5_ := Aside0.mk (Kd.N_lower ho37 (below_size (by repeat (first | (with_reducible first | exact HB.out | apply below_alloc | apply pw_below_drewN | apply below_drew1) | exact HB.out)))); have n6_ := Aside0.mk (Kd.C_below (by repeat (first | (with_reducible exact HR515_4.out) | (with_reducible refine Kd.C_alloc ?_ _) | (with_reducible refine Kd.C_drewN ?_ _) | (with_reducible refine Kd.C_drew ?_) | exact HR515_4.out)) hb); have n7_ := Aside0.mk (below_step (by repeat (first | (with_reducible first | exact HB.out | apply below_alloc | apply pw_below_drewN | apply below_drew1) | exact HB.out)) hb); clear HO_0; clear HO_4; clear HO_5; clear HL515_4; clear HO518; clear HR515_4; clear HB; have HO_0 := n0_; have HO_4 := n1_; have HO_5 := n2_; have HL515_4 := n3_; have HO518 := n4_; have HO522 := n5_; have HR515_4 := n6_; have HB := n7_; clear n0_ n1_ n2_ n3_ n4_ n5_ n6_ n7_; clear hb ho37; have q38 : (t514 : Int) ≤ ((x4_1.length : Int) : Int) := of_decide_eq_true (by first | (with_reducible assumption) | assumption); obtain ⟨i038, hi038, _, hsz38, _⟩ := info_parts info35; have hroom38 : x4_1.length ≤ co16 := (Kd.N_reads' HO_4.out).2.1; have hC38 : Kd.F k35 _ _ (some ad515) x4_1.length x4_1 := (Kd.V_at (base := w.heap.size) (Kd.N_V HO_4.out)).2.2; have hcut38 := cut_to (P := Try.prog) 22 35 .i64 Try.underlying22 hi038 (some ad515) x4_1.length co16 t514 (of_decide_eq_true (by first | (with_reducible assumption) | assumption)) q38 hroom38; have hr38 := Kd.F_take (m := (t514 : Int).toNat) hC38 (by omega); have hy38 : y523.length = (t514 : Int).toNat := (by rw [Ny523.out, List.length_take]; omega); rw [← Ny523.out] at hr38; rw [← hy38] at hcut38; have HO527 := Aside0.mk (show Kd.V k35 35 _ w.heap.size _ (.slice (some ad515) y523.length co16) y523 from Kd.V_mk (by omega) hr38); have HC527 := Aside0.mk (show y523.length ≤ co16 from by omega); clear hr38 hC38 hroom38 hi038 hsz38; have KY38 := Aside0.mk hy38; clear hy38; replace q38 := eq_true q38) | ((with_reducible refine gate_builtin (b := .append) (xs := #[.tmp 46, .tmp 49]) rfl ?_); (try (refine gate_guard (by rfl) ?_; dsimp only)); at_builtin; refine Kd.N_append_rows k35 (w0 := w) w.heap.size rfl (.tmp 46) (.tmp 49) 22 35 (.agg #[(.bool false), (.int .i64 0), (.bool false), (.int .i64 0), (.slice none 0 0)]) 56 rfl Try.underlying22 info35 rfl (by decide) (by omega) v521 y520 y523 _ _ _ (fun k_ => some k_ ≠ (.slice Ao35 x5_1.length co35 : Value).ownBlock ∧ some k_ ≠ (.slice Ao34 t516.length co34 : Value).ownBlock) (fun k_ => ((fun k_ => some k_ ≠ (.slice Ao35 x5_1.length co35 : Value).ownBlock ∧ some k_ ≠ (.slice Ao34 t516.length co34 : Value).ownBlock)) k_ ∧ some k_ ≠ (v521 : Value).ownBlock) rfl rfl ?aO ?aR (fun _ hk => hk) ?aF ?aB ?aS ?aL ?_; (case aR => exact (by skip; exact Kd.V_F (Kd.V_mono (ok' := (fun k_ => ((fun k_ => some k_ ≠ (.slice Ao35 x5_1.length co35 : Value).ownBlock ∧ some k_ ≠ (.slice Ao34 t516.length co34 : Value).ownBlock)) k_ ∧ some k_ ≠ (v521 : Value).ownBlock)) (HO527.out) (fun k_ hk => ⟨⟨hk.1.1, hk.1.2⟩, hk.2⟩)))); (case aB => exact (by repeat (first | (with_reducible first | exact HB.out | apply below_alloc | apply pw_below_drewN | apply below_drew1) | exact HB.out))); (case aF => exact (fun k_ hk => ⟨Kd.fresh' (Kd.R_lt (by (with_reducible repeat (first | apply Kd.R_alloc | apply Kd.R_drewN | apply Kd.R_drew)); exact HO_5.out)) k_ hk, Kd.fresh' (Kd.R_lt (by (with_reducible repeat (first | apply Kd.R_alloc | apply Kd.R_drewN | apply Kd.R_drew)); exact HO518.out)) k_ hk⟩)); (case aO => exact (by (with_reducible repeat (first | apply Kd.N_alloc | apply Kd.N_drewN | apply Kd.N_drew)); exact Kd.N_mono HO522.out (fun _ hk => ⟨hk.2.2.1, hk.2.2.2⟩))); (case aS => exact (below_size (by repeat (first | (with_reducible first | exact HB.out | apply below_alloc | apply pw_below_drewN | apply below_drew1) | exact HB.out)))); (case aL => have := LMc28.out; omega); intro v529 w39 ho hb hg hat; rw [← Ny528.out] at ho; have n0_ := Aside0.mk (Kd.N_afterv (ok := (fun k_ => some k_ ≠ (.slice (some ad515) x4_1.length co16 : Value).ownBlock ∧ some k_ ≠ (.slice Ao35 x5_1.length co35 : Value).ownBlock ∧ some k_ ≠ (.slice Ao34 t516.length co34 : Value).ownBlock)) (by (with_reducible repeat (first | apply Kd.N_alloc | apply Kd.N_drewN | apply Kd.N_drew)); exact Kd.N_mono HO_0.out (fun _ hk => ⟨⟨hk.1.1.1, ⟨hk.1.1.2, hk.1.2⟩⟩, hk.2⟩)) hg hat); have n1_ := Aside0.mk (Kd.N_afterv (ok := (fun k_ => some k_ ≠ (.slice Ao35 x5_1.length co35 : Value).ownBlock ∧ some k_ ≠ (.slice Ao34 t516.length co34 : Value).ownBlock)) (by (with_reducible repeat (first | apply Kd.N_alloc | apply Kd.N_drewN | apply Kd.N_drew)); exact HO_4.out) hg hat); have n2_ := Aside0.mk (Kd.R_over' (by (with_reducible repeat (first | apply Kd.R_alloc | apply Kd.R_drewN | apply Kd.R_drew)); exact HO_5.out) (Kd.N_typed (by (with_reducible repeat (first | apply Kd.N_alloc | apply Kd.N_drewN | apply Kd.N_drew)); exact HO522.out)) (by decide) hg); have n3_ := Aside0.mk (Kd.V_afterv (ok := (fun k_ => some k_ ≠ (.slice (some ad515) x4_1.length co16 : Value).ownBlock ∧ some k_ ≠ (.slice Ao35 x5_1.length co35 : Value).ownBlock ∧ some k_ ≠ (.slice Ao34 t516.length co34 : Value).ownBlock)) (by (with_reducible repeat (first | apply Kd.V_alloc | apply Kd.V_drewN | apply Kd.V_drew)); exact Kd.V_mono HL515_4.out (fun _ hk => ⟨⟨hk.1.1.2, ⟨hk.1.1.1, hk.1.2⟩⟩, hk.2⟩)) hg hat); have n4_ := Aside0.mk (Kd.R_over' (by (with_reducible repeat (first | apply Kd.R_alloc | apply Kd.R_drewN | apply Kd.R_drew)); exact HO518.out) (Kd.N_typed (by (with_reducible repeat (first | apply Kd.N_alloc | apply Kd.N_drewN | apply Kd.N_drew)); exact HO522.out)) (by decide) hg); have n5_ := Aside0.mk (Kd.V_afterv (ok := (fun k_ => some k_ ≠ (.slice Ao35 x5_1.length co35 : Value).ownBlock ∧ some k_ ≠ (.slice Ao34 t516.length co34 : Value).ownBlock)) (by (with_reducible repeat (first | apply Kd.V_alloc | apply Kd.V_drewN | apply Kd.V_drew)); exact HO527.out) hg hat); have n6_ := Aside0.mk (hb); have n7_ := Aside0.mk (ho); clear HO_0; clear HO_4; clear HO_5; clear HL515_4; clear HO518; clear HO527; clear HB; clear HO522; have HO_0 := n0_; have HO_4 := n1_; have HO_5 := n2_; have HL515_4 := n3_; have HO518 := n4_; have HO527 := n5_; have HB := n6_; have HO530 := n7_; clear n0_ n1_ n2_ n3_ n4_ n5_ n6_ n7_; clear ho hb hg hat; have q40 : ((ji29) : Int) ≤ ((x4_1.length : Int) : Int) := of_decide_eq_true (by first | (with_reducible assumption) | assumption); obtain ⟨i040, hi040, _, hsz40, _⟩ := info_parts info35; have hroom40 : x4_1.length ≤ co16 := (Kd.N_reads' HO_4.out).2.1; have hC40 : Kd.F k35 _ _ (some ad515) x4_1.length x4_1 := (Kd.V_at (base := w.heap.size) (Kd.N_V HO_4.out)).2.2; have q040 : (0 : Int) ≤ ((ji29) : Int) := of_decide_eq_true (by first | (with_reducible assumption) | assumption); have hcut40 := cut_from (P := Try.prog) 22 35 .i64 Try.underlying22 hi040 5 hsz40 (some ad515) x4_1.length co16 (ji29) q040 q40; have hr40 := Kd.F_cut (m := ((ji29) : Int).toNat) (c := co16) hC40 (by omega) hroom40; obtain ⟨A40, hA40⟩ : ∃ A1, A1 = (if co16 = ((ji29) : Int).toNat then (some ad515) else ((some ad515) : Option Addr).map (·.add (((ji29) : Int).toNat * 5))) := ⟨_, rfl⟩; obtain ⟨c40, hc40⟩ : ∃ c1, c1 = co16 - ((ji29) : Int).toNat := ⟨_, rfl⟩; have hy40 : y531.length = x4_1.length - ((ji29) : Int).toNat := (by rw [Ny531.out, List.length_drop] <;> omega); rw [show (x4_1).drop ((ji29) : Int).toNat = y531 from Ny531.out.symm] at hr40; replace hr40 : Kd.F k35 _ _ A40 y531.length y531 := (by rw [hA40]; exact hr40); rw [← hy40, ← hA40, ← hc40] at hcut40; have HO535 := Aside0.mk (show Kd.V k35 35 _ w.heap.size _ (.slice A40 y531.length c40) y531 from Kd.V_mk (by rw [hy40, hc40]; exact Nat.sub_le_sub_right hroom40 _) hr40); have HC535 := Aside0.mk (show y531.length ≤ c40 from by rw [hy40, hc40]; exact Nat.sub_le_sub_right hroom40 _); clear hr40 hC40 hroom40 hi040 hsz40 hc40; have KY40 := Aside0.mk hy40; have KA40 := Aside0.mk hA40; clear hy40 hA40; replace q40 := eq_true q40) | ((with_reducible refine gate_builtin (b := .append) (xs := #[.tmp 51, .tmp 55]) rfl ?_); (try (refine gate_guard (by rfl) ?_; dsimp only)); at_builtin; refine Kd.N_append_rows k35 (w0 := w) w.heap.size rfl (.tmp 51) (.tmp 55) 22 35 (.agg #[(.bool false), (.int .i64 0), (.bool false), (.int .i64 0), (.slice none 0 0)]) 56 rfl Try.underlying22 info35 rfl (by decide) (by omega) v529 y528 y531 _ _ _ (fun k_ => some k_ ≠ (.slice Ao35 x5_1.length co35 : Value).ownBlock ∧ some k_ ≠ (.slice Ao34 t516.length co34 : Value).ownBlock) (fun k_ => ((fun k_ => some k_ ≠ (.slice Ao35 x5_1.length co35 : Value).ownBlock ∧ some k_ ≠ (.slice Ao34 t516.length co34 : Value).ownBlock)) k_ ∧ some k_ ≠ (v529 : Value).ownBlock) rfl rfl ?aO ?aR (fun _ hk => hk) ?aF ?aB ?aS ?aL ?_; (case aR => exact (by skip; exact Kd.V_F (Kd.V_mono (ok' := (fun k_ => ((fun k_ => some k_ ≠ (.slice Ao35 x5_1.length co35 : Value).ownBlock ∧ some k_ ≠ (.slice Ao34 t516.length co34 : Value).ownBlock)) k_ ∧ some k_ ≠ (v529 : Value).ownBlock)) (HO535.out) (fun k_ hk => ⟨⟨hk.1.1, hk.1.2⟩, hk.2⟩)))); (case aB => exact (by repeat (first | (with_reducible first | exact HB.out | apply below_alloc | apply pw_below_drewN | apply below_drew1) | exact HB.out))); (case aF => exact (fun k_ hk => ⟨Kd.fresh' (Kd.R_lt (by (with_reducible repeat (first | apply Kd.R_alloc | apply Kd.R_drewN | apply Kd.R_drew)); exact HO_5.out)) k_ hk, Kd.fresh' (Kd.R_lt (by (with_reducible repeat (first | apply Kd.R_alloc | apply Kd.R_drewN | apply Kd.R_drew)); exact HO518.out)) k_ hk⟩)); (case aO => exact (by (with_reducible repeat (first | apply Kd.N_alloc | apply Kd.N_drewN | apply Kd.N_drew)); exact HO530.out)); (case aS => exact (below_size (by repeat (first | (with_reducible first | exact HB.out | apply below_alloc | apply pw_below_drewN | apply below_drew1) | exact HB.out)))); (case aL => have := LMc32.out; omega); intro v537 w41 ho hb hg hat; rw [← Ny536.out] at ho; have n0_ := Aside0.mk (Kd.N_afterv (ok := (fun k_ => some k_ ≠ (.slice (some ad515) x4_1.length co16 : Value).ownBlock ∧ some k_ ≠ (.slice Ao35 x5_1.length co35 : Value).ownBlock ∧ some k_ ≠ (.slice Ao34 t516.length co34 : Value).ownBlock)) (by (with_reducible repeat (first | apply Kd.N_alloc | apply Kd.N_drewN | apply Kd.N_drew)); exact HO_0.out) hg hat); have n1_ := Aside0.mk (Kd.N_afterv (ok := (fun k_ => some k_ ≠ (.slice Ao35 x5_1.length co35 : Value).ownBlock ∧ some k_ ≠ (.slice Ao34 t516.length co34 : Value).ownBlock)) (by (with_reducible repeat (first | apply Kd.N_alloc | apply Kd.N_drewN | apply Kd.N_drew)); exact HO_4.out) hg hat); have n2_ := Aside0.mk (Kd.R_over' (by (with_reducible repeat (first | apply Kd.R_alloc | apply Kd.R_drewN | apply Kd.R_drew)); exact HO_5.out) (Kd.N_typed (by (with_reducible repeat (first | apply Kd.N_alloc | apply Kd.N_drewN | apply Kd.N_drew)); exact HO530.out)) (by decide) hg); have n3_ := Aside0.mk (Kd.V_afterv (ok := (fun k_ => some k_ ≠ (.slice (some ad515) x4_1.length co16 : Value).ownBlock ∧ some k_ ≠ (.slice Ao35 x5_1.length co35 : Value).ownBlock ∧ some k_ ≠ (.slice Ao34 t516.length co34 : Value).ownBlock)) (by (with_reducible repeat (first | apply Kd.V_alloc | apply Kd.V_drewN | apply Kd.V_drew)); exact HL515_4.out) hg hat); have n4_ := Aside0.mk (Kd.R_over' (by (with_reducible repeat (first | apply Kd.R_alloc | apply Kd.R_drewN | apply Kd.R_drew)); exact HO518.out) (Kd.N_typed (by (with_reducible repeat (first | apply Kd.N_alloc | apply Kd.N_drewN | apply Kd.N_drew)); exact HO530.out)) (by decide) hg); have n5_ := Aside0.mk (Kd.V_afterv (ok := (fun k_ => some k_ ≠ (.slice Ao35 x5_1.length co35 : Value).ownBlock ∧ some k_ ≠ (.slice Ao34 t516.length co34 : Value).ownBlock)) (by (with_reducible repeat (first | apply Kd.V_alloc | apply Kd.V_drewN | apply Kd.V_drew)); exact HO527.out) hg hat); have n6_ := Aside0.mk (Kd.V_afterv (ok := (fun k_ => some k_ ≠ (.slice Ao35 x5_1.length co35 : Value).ownBlock ∧ some k_ ≠ (.slice Ao34 t516.length co34 : Value).ownBlock)) (by (with_reducible repeat (first | apply Kd.V_alloc | apply Kd.V_drewN | apply Kd.V_drew)); exact HO535.out) hg hat); have n7_ := Aside0.mk (hb); have n8_ := Aside0.mk (ho); clear HO_0; clear HO_4; clear HO_5; clear HL515_4; clear HO518; clear HO527; clear HO535; clear HB; clear HO530; have HO_0 := n0_; have HO_4 := n1_; have HO_5 := n2_; have HL515_4 := n3_; have HO518 := n4_; have HO527 := n5_; have HO535 := n6_; have HB := n7_; have HO538 := n8_; clear n0_ n1_ n2_ n3_ n4_ n5_ n6_ n7_ n8_; clear ho hb hg hat))
                                  go_roundg kj14
                                  case measure => have := HK1.out; have := HJ14.out; omega
                                  case rel => exact ⟨(y536), (t516), (wrap64 (x6_1 + 1)), (by first | rfl | (simp; done) | (simp [*]; done)), H', ⟨by have := HK1.out; have := HJ14.out; omega⟩, ⟨by (with_reducible repeat (first | apply Kd.N_alloc | apply Kd.N_drewN | apply Kd.N_drew)); exact Kd.N_mono HO_0.out (fun _ hk => ⟨hk.2, hk.1.2.2⟩)⟩, ⟨by (with_reducible repeat (first | apply Kd.N_alloc | apply Kd.N_drewN | apply Kd.N_drew)); exact Kd.N_mono HO538.out (fun _ hk => hk.2)⟩, ⟨by (with_reducible repeat (first | apply Kd.R_alloc | apply Kd.R_drewN | apply Kd.R_drew)); exact Kd.R_mono HO518.out (fun _ hk => trivial)⟩, ⟨by repeat (first | (with_reducible first | exact HB.out | apply below_alloc | apply pw_below_drewN | apply below_drew1) | exact HB.out)⟩⟩
                                · rw [if_neg c32] at H
                                  exact absurd H (by simp)
                              · rw [if_neg c31] at H
                                exact absurd H (by simp)
                            · rw [if_neg c30] at H
                              exact absurd H (by simp)
                          · rw [if_neg c28] at H
                            exact absurd H (by simp)
                        · exfalso; (try simp only [decide_eq_true_eq, decide_eq_false_iff_not, beq_iff_eq, beq_eq_false_iff_ne, ne_eq] at c21b0); omega
                    · rw [if_neg c23] at H
                      have c23b0 : decide (0 < x6_1) = false := decide_eq_false c23
                      clear c23
                      obtain ⟨y539, hy539⟩ : ∃ y_ : List (S35), y_ = (([] : List (S35))) := ⟨_, rfl⟩
                      replace H : (if t514 ≤ (x4_1.length : Int) then ((some (x4_1.take (t514 : Int).toNat : List (S35))).bind fun y542 => (if y539.length + y542.length < 2513169434916 then ((some (y539 ++ y542 : List (S35))).bind fun y547 => (if 0 ≤ (wrap64 (t514 + 1)) then (if (wrap64 (t514 + 1)) ≤ (x4_1.length : Int) then ((some (x4_1.drop ((wrap64 (t514 + 1)) : Int).toNat : List (S35))).bind fun y550 => (if y547.length + y550.length < 2513169434916 then (phaetonlaw06_ArbRounds.l0 kj14 t501 t500 (y547 ++ y550) t516 (wrap64 (x6_1 + 1))) else (none))) else (none)) else (none))) else (none))) else (none)) = some r := by first | (rw [hy539]; with_reducible exact H) | (have H2_ := (Option.bind_some _ _).symm.trans H; rw [hy539]; with_reducible exact H2_) | (have H2_ := (Option.bind_some _ _).symm.trans H; with_reducible exact H2_) | with_reducible exact H | (rw [hy539]; exact H) | exact H
                      have Ny539 := Aside0.mk hy539
                      clear hy539
                      have c42b0 := eq_true (of_decide_eq_true (by first | (with_reducible assumption) | assumption) : 0 ≤ t514)
                      by_cases c43 : t514 ≤ (x4_1.length : Int)
                      · rw [if_pos c43] at H
                        have c43b0 := eq_true c43
                        have c43b1 : decide (t514 ≤ (x4_1.length : Int)) = true := decide_eq_true c43
                        clear c43
                        obtain ⟨y542, hy542⟩ : ∃ y_ : List (S35), y_ = (x4_1.take (t514 : Int).toNat) := ⟨_, rfl⟩
                        replace H : (if y539.length + y542.length < 2513169434916 then ((some (y539 ++ y542 : List (S35))).bind fun y547 => (if 0 ≤ (wrap64 (t514 + 1)) then (if (wrap64 (t514 + 1)) ≤ (x4_1.length : Int) then ((some (x4_1.drop ((wrap64 (t514 + 1)) : Int).toNat : List (S35))).bind fun y550 => (if y547.length + y550.length < 2513169434916 then (phaetonlaw06_ArbRounds.l0 kj14 t501 t500 (y547 ++ y550) t516 (wrap64 (x6_1 + 1))) else (none))) else (none)) else (none))) else (none)) = some r := by first | (rw [hy542]; with_reducible exact H) | (have H2_ := (Option.bind_some _ _).symm.trans H; rw [hy542]; with_reducible exact H2_) | (have H2_ := (Option.bind_some _ _).symm.trans H; with_reducible exact H2_) | with_reducible exact H | (rw [hy542]; exact H) | exact H
                        have Ny542 := Aside0.mk hy542
                        clear hy542
                        by_cases c44 : y539.length + y542.length < 2513169434916
                        · rw [if_pos c44] at H
                          have LMc44 := Aside0.mk c44
                          clear c44
                          obtain ⟨y547, hy547⟩ : ∃ y_ : List (S35), y_ = (y539 ++ y542) := ⟨_, rfl⟩
                          replace H : (if 0 ≤ (wrap64 (t514 + 1)) then (if (wrap64 (t514 + 1)) ≤ (x4_1.length : Int) then ((some (x4_1.drop ((wrap64 (t514 + 1)) : Int).toNat : List (S35))).bind fun y550 => (if y547.length + y550.length < 2513169434916 then (phaetonlaw06_ArbRounds.l0 kj14 t501 t500 (y547 ++ y550) t516 (wrap64 (x6_1 + 1))) else (none))) else (none)) else (none)) = some r := by first | (rw [hy547]; with_reducible exact H) | (have H2_ := (Option.bind_some _ _).symm.trans H; rw [hy547]; with_reducible exact H2_) | (have H2_ := (Option.bind_some _ _).symm.trans H; with_reducible exact H2_) | with_reducible exact H | (rw [hy547]; exact H) | exact H
                          have Ny547 := Aside0.mk hy547
                          clear hy547
                          obtain ⟨ji45, hji45⟩ : ∃ j_ : Int, (wrap64 (t514 + 1)) = j_ := ⟨_, rfl⟩
                          replace H : (if 0 ≤ (ji45) then (if (ji45) ≤ (x4_1.length : Int) then ((some (x4_1.drop ((ji45) : Int).toNat : List (S35))).bind fun y550 => (if y547.length + y550.length < 2513169434916 then (phaetonlaw06_ArbRounds.l0 kj14 t501 t500 (y547 ++ y550) t516 (wrap64 (x6_1 + 1))) else (none))) else (none)) else (none)) = some r := by first | (rw [hji45] at H; exact H) | (simp only [hji45] at H ⊢; exact H)
                          (try rw [hji45] at A22)
                          have hji45w : (IntKind.i64.wrap (t514 + 1)) = ji45 := (i64_w _).trans hji45
                          by_cases c46 : 0 ≤ (ji45)
                          · rw [if_pos c46] at H
                            have c46b0 := eq_true c46
                            have c46b1 : decide (0 ≤ (ji45)) = true := decide_eq_true c46
                            have c46m : max (ji45) 0 = (ji45) := by omega
                            clear c46
                            by_cases c47 : (ji45) ≤ (x4_1.length : Int)
                            · rw [if_pos c47] at H
                              have c47b0 := eq_true c47
                              have c47b1 : decide ((ji45) ≤ (x4_1.length : Int)) = true := decide_eq_true c47
                              clear c47
                              obtain ⟨y550, hy550⟩ : ∃ y_ : List (S35), y_ = (x4_1.drop ((ji45) : Int).toNat) := ⟨_, rfl⟩
                              replace H : (if y547.length + y550.length < 2513169434916 then (phaetonlaw06_ArbRounds.l0 kj14 t501 t500 (y547 ++ y550) t516 (wrap64 (x6_1 + 1))) else (none)) = some r := by first | (rw [hy550]; with_reducible exact H) | (have H2_ := (Option.bind_some _ _).symm.trans H; rw [hy550]; with_reducible exact H2_) | (have H2_ := (Option.bind_some _ _).symm.trans H; with_reducible exact H2_) | with_reducible exact H | (rw [hy550]; exact H) | exact H
                              have Ny550 := Aside0.mk hy550
                              clear hy550
                              by_cases c48 : y547.length + y550.length < 2513169434916
                              · rw [if_pos c48] at H
                                have LMc48 := Aside0.mk c48
                                clear c48
                                obtain ⟨y555, hy555⟩ : ∃ y_ : List (S35), y_ = (y547 ++ y550) := ⟨_, rfl⟩
                                replace H : (phaetonlaw06_ArbRounds.l0 kj14 t501 t500 y555 t516 (wrap64 (x6_1 + 1))) = some r := by first | (rw [hy555]; with_reducible exact H) | (have H2_ := (Option.bind_some _ _).symm.trans H; rw [hy555]; with_reducible exact H2_) | (have H2_ := (Option.bind_some _ _).symm.trans H; with_reducible exact H2_) | with_reducible exact H | (rw [hy555]; exact H) | exact H
                                have Ny555 := Aside0.mk hy555
                                clear hy555
                                have H' := Aside0.mk H
                                clear H
                                have p515 : 0 ≤ (t514 : Int) := of_decide_eq_true (by first | (with_reducible assumption) | assumption)
                                have q515 : t514 < (x4_1.length : Int) := of_decide_eq_true (by first | (with_reducible assumption) | assumption)
                                obtain ⟨ad515, A515_4, c515_4, e515, hx515_0, hx515_1, hx515_2, hx515_3, hx515_4, hl515_4, hi515_4⟩ := at_T35 (Kd.N_reads' HO_4.out).2.2 t514 p515 q515
                                cases e515
                                obtain ⟨ce515, hce515, hMe515, hcc515⟩ := Kd.N_get HO_4.out z35 t514 p515 (by first | exact q515 | exact of_decide_eq_true (by first | (with_reducible assumption) | assumption) | (have e_ := (Kd.N_reads' HO_4.out).1; omega))
                                obtain ⟨ua515_4, uc515_4, rfl, ul515_4, ge515_4⟩ := k35_openF hMe515
                                have hv515_4 := hcc515 4 _ rfl
                                rw [add_field _ _ 4 (by omega)] at hv515_4
                                replace hv515_4 := Option.some.inj (hv515_4.symm.trans hx515_4)
                                injection hv515_4 with hva_ hvn_ hvc_
                                rw [hva_] at ge515_4
                                rw [hvc_] at ul515_4
                                have HL515_4 := Aside0.mk (show Kd.V (Kd.int .u8) 5 _ w.heap.size _ _ ((rd_T35 x4_1 t514).f4) from Kd.V_mk ul515_4 ge515_4)
                                clear hva_ hvn_ hvc_ ge515_4 ul515_4
                                clear hcc515 hce515
                                have HR515_4 := Aside0.mk hi515_4
                                have HC515_4 := Aside0.mk hl515_4
                                clear hi515_4 hl515_4
                                replace p515 := eq_true p515
                                replace q515 := eq_true q515
                                go_wp2_with (first | ((with_reducible refine gate_callee (f := 24) rfl ?_); refine goesL_ (some 37) rfl rfl Try.func24 (by kernel_rfl) rfl #[.agg #[.bool ((rd_T35 x4_1 t514).f0), .int .i64 ((rd_T35 x4_1 t514).f1), .bool ((rd_T35 x4_1 t514).f2), .int .i64 ((rd_T35 x4_1 t514).f3), .slice A515_4 ((rd_T35 x4_1 t514).f4).length c515_4]] rfl (by (try simp only [List.map_toArray, List.map_cons, List.map_nil]); first | done | rfl | (simp only [List.length_drop, List.length_take]; rfl)) ?_; (with_reducible refine (phaetonref06_Rank.calls kj14 ((rd_T35 x4_1 t514).f0) ((rd_T35 x4_1 t514).f1) ((rd_T35 x4_1 t514).f2) ((rd_T35 x4_1 t514).f3) _ _ ((rd_T35 x4_1 t514).f4) t516 _ ?side1 ?side2 A22.out).mono ?_); (case side1 => repeat (first | exact (by repeat (first | (with_reducible exact HR515_4.out) | (with_reducible refine Kd.C_alloc ?_ _) | (with_reducible refine Kd.C_drewN ?_ _) | (with_reducible refine Kd.C_drew ?_) | exact HR515_4.out)) | (with_reducible refine Kd.C_alloc ?_ _) | (with_reducible refine Kd.C_drewN ?_ _) | (with_reducible refine Kd.C_drew ?_))); (case side2 => exact HC515_4.out); rintro e w49 ⟨v517, rfl, ho0, hb⟩; refine ⟨_, rfl, ?_⟩; have n0_ := Aside0.mk (Kd.N_elder' (by (with_reducible repeat (first | apply Kd.N_alloc | apply Kd.N_drewN | apply Kd.N_drew)); exact HO_0.out) (Kd.R_base ho0) hb); have n1_ := Aside0.mk (Kd.N_elder' (by (with_reducible repeat (first | apply Kd.N_alloc | apply Kd.N_drewN | apply Kd.N_drew)); exact HO_4.out) (Kd.R_base ho0) hb); have n2_ := Aside0.mk (Kd.R_elder' (by (with_reducible repeat (first | apply Kd.R_alloc | apply Kd.R_drewN | apply Kd.R_drew)); exact HO_5.out) (Kd.R_base ho0) hb); have n3_ := Aside0.mk (Kd.V_elder' (by (with_reducible repeat (first | apply Kd.V_alloc | apply Kd.V_drewN | apply Kd.V_drew)); exact HL515_4.out) (Kd.R_base ho0) hb); have n4_ := Aside0.mk (Kd.R_lower (Kd.R_new' ho0 (Kd.R_lt (by (with_reducible repeat (first | apply Kd.R_alloc | apply Kd.R_drewN | apply Kd.R_drew)); exact HO_5.out))) (below_size (by repeat (first | (with_reducible first | exact HB.out | apply below_alloc | apply pw_below_drewN | apply below_drew1) | exact HB.out)))); have n5_ := Aside0.mk (Kd.C_below (by repeat (first | (with_reducible exact HR515_4.out) | (with_reducible refine Kd.C_alloc ?_ _) | (with_reducible refine Kd.C_drewN ?_ _) | (with_reducible refine Kd.C_drew ?_) | exact HR515_4.out)) hb); have n6_ := Aside0.mk (below_step (by repeat (first | (with_reducible first | exact HB.out | apply below_alloc | apply pw_below_drewN | apply below_drew1) | exact HB.out)) hb); clear HO_0; clear HO_4; clear HO_5; clear HL515_4; clear HR515_4; clear HB; have HO_0 := n0_; have HO_4 := n1_; have HO_5 := n2_; have HL515_4 := n3_; have HO518 := n4_; have HR515_4 := n5_; have HB := n6_; clear n0_ n1_ n2_ n3_ n4_ n5_ n6_; (try clear hb); (try clear hb2); (try clear hk); (try clear hi); (try clear ho0)) | ((with_reducible refine gate_dst (N := 46) rfl ?_); (try (refine gate_guard (by rfl) ?_; dsimp only)); refine Kd.N_lit k35 _ 35 ?hg (N' := 46) ?hd (xs := ([] : List (S35))) (inner := []) (ok := (fun k_ => some k_ ≠ (.slice Ao10 t501.length co10 : Value).ownBlock ∧ some k_ ≠ (.slice (some ad515) x4_1.length co16 : Value).ownBlock ∧ some k_ ≠ (u5 : Value).ownBlock ∧ some k_ ≠ (v517 : Value).ownBlock)) (okp := (fun k_ => some k_ ≠ (.slice Ao10 t501.length co10 : Value).ownBlock ∧ some k_ ≠ (.slice (some ad515) x4_1.length co16 : Value).ownBlock ∧ some k_ ≠ (u5 : Value).ownBlock ∧ some k_ ≠ (v517 : Value).ownBlock)) ?hr ?hp (fun _ hk => hk) ((show ∀ k_, w49.heap.size ≤ k_ → (fun k_ => some k_ ≠ (.slice Ao10 t501.length co10 : Value).ownBlock ∧ some k_ ≠ (.slice (some ad515) x4_1.length co16 : Value).ownBlock ∧ some k_ ≠ (u5 : Value).ownBlock ∧ some k_ ≠ (v517 : Value).ownBlock) k_ from fun k_ hk => ⟨Kd.fresh' (Kd.N_lt (by (with_reducible repeat (first | apply Kd.N_alloc | apply Kd.N_drewN | apply Kd.N_drew)); exact HO_0.out)) k_ hk, Kd.fresh' (Kd.N_lt (by (with_reducible repeat (first | apply Kd.N_alloc | apply Kd.N_drewN | apply Kd.N_drew)); exact HO_4.out)) k_ hk, Kd.fresh' (Kd.R_lt (by (with_reducible repeat (first | apply Kd.R_alloc | apply Kd.R_drewN | apply Kd.R_drew)); exact HO_5.out)) k_ hk, Kd.fresh' (Kd.R_lt (by (with_reducible repeat (first | apply Kd.R_alloc | apply Kd.R_drewN | apply Kd.R_drew)); exact HO518.out)) k_ hk⟩) _ (Nat.le_refl _)) (Below.refl _ _) (Nat.le_refl _) (by simp) ?_; (case hd => rfl); (case hg => rfl); (case hr => first | (go_simp; done) | (go_simp; rfl)); (case hp => exact (Reps.none _ _)); intro v540 w50 ho51 hb hg_ hnew_; clear hg_ hnew_; (first | rw [← Ny539.out] at ho51 | (simp only [Int.reduceToNat] at ho51; rw [← Ny539.out] at ho51)); have n0_ := Aside0.mk (Kd.N_elder' (by (with_reducible repeat (first | apply Kd.N_alloc | apply Kd.N_drewN | apply Kd.N_drew)); exact HO_0.out) (Kd.N_base ho51) hb); have n1_ := Aside0.mk (Kd.N_elder' (by (with_reducible repeat (first | apply Kd.N_alloc | apply Kd.N_drewN | apply Kd.N_drew)); exact HO_4.out) (Kd.N_base ho51) hb); have n2_ := Aside0.mk (Kd.R_below (by (with_reducible repeat (first | apply Kd.R_alloc | apply Kd.R_drewN | apply Kd.R_drew)); exact HO_5.out) hb); have n3_ := Aside0.mk (Kd.V_elder' (by (with_reducible repeat (first | apply Kd.V_alloc | apply Kd.V_drewN | apply Kd.V_drew)); exact HL515_4.out) (Kd.N_base ho51) hb); have n4_ := Aside0.mk (Kd.R_below (by (with_reducible repeat (first | apply Kd.R_alloc | apply Kd.R_drewN | apply Kd.R_drew)); exact HO518.out) hb); have n5_ := Aside0.mk (Kd.N_lower ho51 (below_size (by repeat (first | (with_reducible first | exact HB.out | apply below_alloc | apply pw_below_drewN | apply below_drew1) | exact HB.out)))); have n6_ := Aside0.mk (Kd.C_below (by repeat (first | (with_reducible exact HR515_4.out) | (with_reducible refine Kd.C_alloc ?_ _) | (with_reducible refine Kd.C_drewN ?_ _) | (with_reducible refine Kd.C_drew ?_) | exact HR515_4.out)) hb); have n7_ := Aside0.mk (below_step (by repeat (first | (with_reducible first | exact HB.out | apply below_alloc | apply pw_below_drewN | apply below_drew1) | exact HB.out)) hb); clear HO_0; clear HO_4; clear HO_5; clear HL515_4; clear HO518; clear HR515_4; clear HB; have HO_0 := n0_; have HO_4 := n1_; have HO_5 := n2_; have HL515_4 := n3_; have HO518 := n4_; have HO541 := n5_; have HR515_4 := n6_; have HB := n7_; clear n0_ n1_ n2_ n3_ n4_ n5_ n6_ n7_; clear hb ho51; have q52 : (t514 : Int) ≤ ((x4_1.length : Int) : Int) := of_decide_eq_true (by first | (with_reducible assumption) | assumption); obtain ⟨i052, hi052, _, hsz52, _⟩ := info_parts info35; have hroom52 : x4_1.length ≤ co16 := (Kd.N_reads' HO_4.out).2.1; have hC52 : Kd.F k35 _ _ (some ad515) x4_1.length x4_1 := (Kd.V_at (base := w.heap.size) (Kd.N_V HO_4.out)).2.2; (try clear hcut38); have hcut52 := cut_to (P := Try.prog) 22 35 .i64 Try.underlying22 hi052 (some ad515) x4_1.length co16 t514 (of_decide_eq_true (by first | (with_reducible assumption) | assumption)) q52 hroom52; have hr52 := Kd.F_take (m := (t514 : Int).toNat) hC52 (by omega); have hy52 : y542.length = (t514 : Int).toNat := (by rw [Ny542.out, List.length_take]; omega); rw [← Ny542.out] at hr52; rw [← hy52] at hcut52; have HO546 := Aside0.mk (show Kd.V k35 35 _ w.heap.size _ (.slice (some ad515) y542.length co16) y542 from Kd.V_mk (by omega) hr52); have HC546 := Aside0.mk (show y542.length ≤ co16 from by omega); clear hr52 hC52 hroom52 hi052 hsz52; have KY52 := Aside0.mk hy52; clear hy52; replace q52 := eq_true q52) | ((with_reducible refine gate_builtin (b := .append) (xs := #[.tmp 46, .tmp 49]) rfl ?_); (try (refine gate_guard (by rfl) ?_; dsimp only)); at_builtin; refine Kd.N_append_rows k35 (w0 := w) w.heap.size rfl (.tmp 46) (.tmp 49) 22 35 (.agg #[(.bool false), (.int .i64 0), (.bool false), (.int .i64 0), (.slice none 0 0)]) 56 rfl Try.underlying22 info35 rfl (by decide) (by omega) v540 y539 y542 _ _ _ (fun k_ => some k_ ≠ (u5 : Value).ownBlock ∧ some k_ ≠ (v517 : Value).ownBlock) (fun k_ => ((fun k_ => some k_ ≠ (u5 : Value).ownBlock ∧ some k_ ≠ (v517 : Value).ownBlock)) k_ ∧ some k_ ≠ (v540 : Value).ownBlock) rfl rfl ?aO ?aR (fun _ hk => hk) ?aF ?aB ?aS ?aL ?_; (case aR => exact (by skip; exact Kd.V_F (Kd.V_mono (ok' := (fun k_ => ((fun k_ => some k_ ≠ (u5 : Value).ownBlock ∧ some k_ ≠ (v517 : Value).ownBlock)) k_ ∧ some k_ ≠ (v540 : Value).ownBlock)) (HO546.out) (fun k_ hk => ⟨⟨hk.1.1, hk.1.2⟩, hk.2⟩)))); (case aB => exact (by repeat (first | (with_reducible first | exact HB.out | apply below_alloc | apply pw_below_drewN | apply below_drew1) | exact HB.out))); (case aF => exact (fun k_ hk => ⟨Kd.fresh' (Kd.R_lt (by (with_reducible repeat (first | apply Kd.R_alloc | apply Kd.R_drewN | apply Kd.R_drew)); exact HO_5.out)) k_ hk, Kd.fresh' (Kd.R_lt (by (with_reducible repeat (first | apply Kd.R_alloc | apply Kd.R_drewN | apply Kd.R_drew)); exact HO518.out)) k_ hk⟩)); (case aO => exact (by (with_reducible repeat (first | apply Kd.N_alloc | apply Kd.N_drewN | apply Kd.N_drew)); exact Kd.N_mono HO541.out (fun _ hk => ⟨hk.2.2.1, hk.2.2.2⟩))); (case aS => exact (below_size (by repeat (first | (with_reducible first | exact HB.out | apply below_alloc | apply pw_below_drewN | apply below_drew1) | exact HB.out)))); (case aL => have := LMc44.out; omega); intro v548 w53 ho hb hg hat; rw [← Ny547.out] at ho; have n0_ := Aside0.mk (Kd.N_afterv (ok := (fun k_ => some k_ ≠ (.slice (some ad515) x4_1.length co16 : Value).ownBlock ∧ some k_ ≠ (u5 : Value).ownBlock ∧ some k_ ≠ (v517 : Value).ownBlock)) (by (with_reducible repeat (first | apply Kd.N_alloc | apply Kd.N_drewN | apply Kd.N_drew)); exact Kd.N_mono HO_0.out (fun _ hk => ⟨⟨hk.1.1.1, ⟨hk.1.1.2, hk.1.2⟩⟩, hk.2⟩)) hg hat); have n1_ := Aside0.mk (Kd.N_afterv (ok := (fun k_ => some k_ ≠ (u5 : Value).ownBlock ∧ some k_ ≠ (v517 : Value).ownBlock)) (by (with_reducible repeat (first | apply Kd.N_alloc | apply Kd.N_drewN | apply Kd.N_drew)); exact HO_4.out) hg hat); have n2_ := Aside0.mk (Kd.R_over' (by (with_reducible repeat (first | apply Kd.R_alloc | apply Kd.R_drewN | apply Kd.R_drew)); exact HO_5.out) (Kd.N_typed (by (with_reducible repeat (first | apply Kd.N_alloc | apply Kd.N_drewN | apply Kd.N_drew)); exact HO541.out)) (by decide) hg); have n3_ := Aside0.mk (Kd.V_afterv (ok := (fun k_ => some k_ ≠ (.slice (some ad515) x4_1.length co16 : Value).ownBlock ∧ some k_ ≠ (u5 : Value).ownBlock ∧ some k_ ≠ (v517 : Value).ownBlock)) (by (with_reducible repeat (first | apply Kd.V_alloc | apply Kd.V_drewN | apply Kd.V_drew)); exact Kd.V_mono HL515_4.out (fun _ hk => ⟨⟨hk.1.1.2, ⟨hk.1.1.1, hk.1.2⟩⟩, hk.2⟩)) hg hat); have n4_ := Aside0.mk (Kd.R_over' (by (with_reducible repeat (first | apply Kd.R_alloc | apply Kd.R_drewN | apply Kd.R_drew)); exact HO518.out) (Kd.N_typed (by (with_reducible repeat (first | apply Kd.N_alloc | apply Kd.N_drewN | apply Kd.N_drew)); exact HO541.out)) (by decide) hg); have n5_ := Aside0.mk (Kd.V_afterv (ok := (fun k_ => some k_ ≠ (u5 : Value).ownBlock ∧ some k_ ≠ (v517 : Value).ownBlock)) (by (with_reducible repeat (first | apply Kd.V_alloc | apply Kd.V_drewN | apply Kd.V_drew)); exact HO546.out) hg hat); have n6_ := Aside0.mk (hb); have n7_ := Aside0.mk (ho); clear HO_0; clear HO_4; clear HO_5; clear HL515_4; clear HO518; clear HO546; clear HB; clear HO541; have HO_0 := n0_; have HO_4 := n1_; have HO_5 := n2_; have HL515_4 := n3_; have HO518 := n4_; have HO546 := n5_; have HB := n6_; have HO549 := n7_; clear n0_ n1_ n2_ n3_ n4_ n5_ n6_ n7_; clear ho hb hg hat; have q54 : ((ji45) : Int) ≤ ((x4_1.length : Int) : Int) := of_decide_eq_true (by first | (with_reducible assumption) | assumption); obtain ⟨i054, hi054, _, hsz54, _⟩ := info_parts info35; have hroom54 : x4_1.length ≤ co16 := (Kd.N_reads' HO_4.out).2.1; have hC54 : Kd.F k35 _ _ (some ad515) x4_1.length x4_1 := (Kd.V_at (base := w.heap.size) (Kd.N_V HO_4.out)).2.2; have q054 : (0 : Int) ≤ ((ji45) : Int) := of_decide_eq_true (by first | (with_reducible assumption) | assumption); have hcut54 := cut_from (P := Try.prog) 22 35 .i64 Try.underlying22 hi054 5 hsz54 (some ad515) x4_1.length co16 (ji45) q054 q54; have hr54 := Kd.F_cut (m := ((ji45) : Int).toNat) (c := co16) hC54 (by omega) hroom54; obtain ⟨A54, hA54⟩ : ∃ A1, A1 = (if co16 = ((ji45) : Int).toNat then (some ad515) else ((some ad515) : Option Addr).map (·.add (((ji45) : Int).toNat * 5))) := ⟨_, rfl⟩; obtain ⟨c54, hc54⟩ : ∃ c1, c1 = co16 - ((ji45) : Int).toNat := ⟨_, rfl⟩; have hy54 : y550.length = x4_1.length - ((ji45) : Int).toNat := (by rw [Ny550.out, List.length_drop] <;> omega); rw [show (x4_1).drop ((ji45) : Int).toNat = y550 from Ny550.out.symm] at hr54; replace hr54 : Kd.F k35 _ _ A54 y550.length y550 := (by rw [hA54]; exact hr54); rw [← hy54, ← hA54, ← hc54] at hcut54; have HO554 := Aside0.mk (show Kd.V k35 35 _ w.heap.size _ (.slice A54 y550.length c54) y550 from Kd.V_mk (by rw [hy54, hc54]; exact Nat.sub_le_sub_right hroom54 _) hr54); have HC554 := Aside0.mk (show y550.length ≤ c54 from by rw [hy54, hc54]; exact Nat.sub_le_sub_right hroom54 _); clear hr54 hC54 hroom54 hi054 hsz54 hc54; have KY54 := Aside0.mk hy54; have KA54 := Aside0.mk hA54; clear hy54 hA54; replace q54 := eq_true q54) | ((with_reducible refine gate_builtin (b := .append) (xs := #[.tmp 51, .tmp 55]) rfl ?_); (try (refine gate_guard (by rfl) ?_; dsimp only)); at_builtin; refine Kd.N_append_rows k35 (w0 := w) w.heap.size rfl (.tmp 51) (.tmp 55) 22 35 (.agg #[(.bool false), (.int .i64 0), (.bool false), (.int .i64 0), (.slice none 0 0)]) 56 rfl Try.underlying22 info35 rfl (by decide) (by omega) v548 y547 y550 _ _ _ (fun k_ => some k_ ≠ (u5 : Value).ownBlock ∧ some k_ ≠ (v517 : Value).ownBlock) (fun k_ => ((fun k_ => some k_ ≠ (u5 : Value).ownBlock ∧ some k_ ≠ (v517 : Value).ownBlock)) k_ ∧ some k_ ≠ (v548 : Value).ownBlock) rfl rfl ?aO ?aR (fun _ hk => hk) ?aF ?aB ?aS ?aL ?_; (case aR => exact (by skip; exact Kd.V_F (Kd.V_mono (ok' := (fun k_ => ((fun k_ => some k_ ≠ (u5 : Value).ownBlock ∧ some k_ ≠ (v517 : Value).ownBlock)) k_ ∧ some k_ ≠ (v548 : Value).ownBlock)) (HO554.out) (fun k_ hk => ⟨⟨hk.1.1, hk.1.2⟩, hk.2⟩)))); (case aB => exact (by repeat (first | (with_reducible first | exact HB.out | apply below_alloc | apply pw_below_drewN | apply below_drew1) | exact HB.out))); (case aF => exact (fun k_ hk => ⟨Kd.fresh' (Kd.R_lt (by (with_reducible repeat (first | apply Kd.R_alloc | apply Kd.R_drewN | apply Kd.R_drew)); exact HO_5.out)) k_ hk, Kd.fresh' (Kd.R_lt (by (with_reducible repeat (first | apply Kd.R_alloc | apply Kd.R_drewN | apply Kd.R_drew)); exact HO518.out)) k_ hk⟩)); (case aO => exact (by (with_reducible repeat (first | apply Kd.N_alloc | apply Kd.N_drewN | apply Kd.N_drew)); exact HO549.out)); (case aS => exact (below_size (by repeat (first | (with_reducible first | exact HB.out | apply below_alloc | apply pw_below_drewN | apply below_drew1) | exact HB.out)))); (case aL => have := LMc48.out; omega); intro v556 w55 ho hb hg hat; rw [← Ny555.out] at ho; have n0_ := Aside0.mk (Kd.N_afterv (ok := (fun k_ => some k_ ≠ (.slice (some ad515) x4_1.length co16 : Value).ownBlock ∧ some k_ ≠ (u5 : Value).ownBlock ∧ some k_ ≠ (v517 : Value).ownBlock)) (by (with_reducible repeat (first | apply Kd.N_alloc | apply Kd.N_drewN | apply Kd.N_drew)); exact HO_0.out) hg hat); have n1_ := Aside0.mk (Kd.N_afterv (ok := (fun k_ => some k_ ≠ (u5 : Value).ownBlock ∧ some k_ ≠ (v517 : Value).ownBlock)) (by (with_reducible repeat (first | apply Kd.N_alloc | apply Kd.N_drewN | apply Kd.N_drew)); exact HO_4.out) hg hat); have n2_ := Aside0.mk (Kd.R_over' (by (with_reducible repeat (first | apply Kd.R_alloc | apply Kd.R_drewN | apply Kd.R_drew)); exact HO_5.out) (Kd.N_typed (by (with_reducible repeat (first | apply Kd.N_alloc | apply Kd.N_drewN | apply Kd.N_drew)); exact HO549.out)) (by decide) hg); have n3_ := Aside0.mk (Kd.V_afterv (ok := (fun k_ => some k_ ≠ (.slice (some ad515) x4_1.length co16 : Value).ownBlock ∧ some k_ ≠ (u5 : Value).ownBlock ∧ some k_ ≠ (v517 : Value).ownBlock)) (by (with_reducible repeat (first | apply Kd.V_alloc | apply Kd.V_drewN | apply Kd.V_drew)); exact HL515_4.out) hg hat); have n4_ := Aside0.mk (Kd.R_over' (by (with_reducible repeat (first | apply Kd.R_alloc | apply Kd.R_drewN | apply Kd.R_drew)); exact HO518.out) (Kd.N_typed (by (with_reducible repeat (first | apply Kd.N_alloc | apply Kd.N_drewN | apply Kd.N_drew)); exact HO549.out)) (by decide) hg); have n5_ := Aside0.mk (Kd.V_afterv (ok := (fun k_ => some k_ ≠ (u5 : Value).ownBlock ∧ some k_ ≠ (v517 : Value).ownBlock)) (by (with_reducible repeat (first | apply Kd.V_alloc | apply Kd.V_drewN | apply Kd.V_drew)); exact HO546.out) hg hat); have n6_ := Aside0.mk (Kd.V_afterv (ok := (fun k_ => some k_ ≠ (u5 : Value).ownBlock ∧ some k_ ≠ (v517 : Value).ownBlock)) (by (with_reducible repeat (first | apply Kd.V_alloc | apply Kd.V_drewN | apply Kd.V_drew)); exact HO554.out) hg hat); have n7_ := Aside0.mk (hb); have n8_ := Aside0.mk (ho); clear HO_0; clear HO_4; clear HO_5; clear HL515_4; clear HO518; clear HO546; clear HO554; clear HB; clear HO549; have HO_0 := n0_; have HO_4 := n1_; have HO_5 := n2_; have HL515_4 := n3_; have HO518 := n4_; have HO546 := n5_; have HO554 := n6_; have HB := n7_; have HO557 := n8_; clear n0_ n1_ n2_ n3_ n4_ n5_ n6_ n7_ n8_; clear ho hb hg hat))
                                go_roundg kj14
                                case measure => have := HK1.out; have := HJ14.out; omega
                                case rel => exact ⟨(y555), (t516), (wrap64 (x6_1 + 1)), (by first | rfl | (simp; done) | (simp [*]; done)), H', ⟨by have := HK1.out; have := HJ14.out; omega⟩, ⟨by (with_reducible repeat (first | apply Kd.N_alloc | apply Kd.N_drewN | apply Kd.N_drew)); exact Kd.N_mono HO_0.out (fun _ hk => ⟨hk.2, hk.1.2.2⟩)⟩, ⟨by (with_reducible repeat (first | apply Kd.N_alloc | apply Kd.N_drewN | apply Kd.N_drew)); exact Kd.N_mono HO557.out (fun _ hk => hk.2)⟩, ⟨by (with_reducible repeat (first | apply Kd.R_alloc | apply Kd.R_drewN | apply Kd.R_drew)); exact Kd.R_mono HO518.out (fun _ hk => trivial)⟩, ⟨by repeat (first | (with_reducible first | exact HB.out | apply below_alloc | apply pw_below_drewN | apply below_drew1) | exact HB.out)⟩⟩
                              · rw [if_neg c48] at H
                                exact absurd H (by simp)
                            · rw [if_neg c47] at H
                              exact absurd H (by simp)
                          · rw [if_neg c46] at H
                            exact absurd H (by simp)
                        · rw [if_neg c44] at H
                          exact absurd H (by simp)
                      · exfalso; (try simp only [decide_eq_true_eq, decide_eq_false_iff_not, beq_iff_eq, beq_eq_false_iff_ne, ne_eq] at c21b0); omega
                  · rw [if_neg c21] at H
                    exact absurd H (by simp)
                · rw [if_neg c20] at H
                  exact absurd H (by simp)
        · rw [if_neg c13] at H
          have c13b0 : decide (x6_1 < (t501.length : Int)) = false := decide_eq_false c13
          clear c13
          replace H := Option.bind_eq_some_iff.mp H
          obtain ⟨t513, A560, H⟩ := H
          replace H : (if t513 = (-1) then (if t500 = true then (some true) else (none)) else (none)) = some r := H
          have A56 := Aside0.mk A560
          clear A560
          by_cases c57 : t513 = (-1)
          · rw [if_pos c57] at H
            have c57b0 : (t513 == (-1)) = true := beq_iff_eq.mpr c57
            have c57b1 : (t513 != (-1)) = false := bne_eq_false_iff_eq.mpr c57
            clear c57
            by_cases c58 : t500 = true
            · subst c58
              have H1 : (some true) = some r := by rw [if_pos rfl] at H; exact H
              clear H
              have H := H1
              clear H1
              obtain rfl := Option.some.inj H
              obtain ⟨Ao59, co59, eo59⟩ := Kd.N_slice HO_4.out
              subst eo59
              go_wp2_with (first | ((with_reducible refine gate_callee (f := 14) rfl ?_); refine goesL_ (some 59) rfl rfl Try.func14 (by kernel_rfl) rfl #[.slice Ao59 x4_1.length co59] rfl (by (try simp only [List.map_toArray, List.map_cons, List.map_nil]); first | done | rfl | (simp only [List.length_drop, List.length_take]; rfl)) ?_; (with_reducible refine (arb_Win.calls _ _ x4_1 t513 _ ?side1 ?side2 A56.out).mono ?_); (case side1 => repeat (first | exact (Kd.N_reads' HO_4.out).2.2 | (with_reducible refine Kd.C_alloc ?_ _) | (with_reducible refine Kd.C_drewN ?_ _) | (with_reducible refine Kd.C_drew ?_))); (case side2 => exact (Kd.N_reads' HO_4.out).2.1); rintro e w60 ⟨rfl, hb⟩; refine ⟨_, rfl, ?_⟩; have n0_ := Aside0.mk (Kd.N_below (by (with_reducible repeat (first | apply Kd.N_alloc | apply Kd.N_drewN | apply Kd.N_drew)); exact HO_0.out) hb); have n1_ := Aside0.mk (Kd.N_below (by (with_reducible repeat (first | apply Kd.N_alloc | apply Kd.N_drewN | apply Kd.N_drew)); exact HO_4.out) hb); have n2_ := Aside0.mk (Kd.R_below (by (with_reducible repeat (first | apply Kd.R_alloc | apply Kd.R_drewN | apply Kd.R_drew)); exact HO_5.out) hb); have n3_ := Aside0.mk (below_step (by repeat (first | (with_reducible first | exact HB.out | apply below_alloc | apply pw_below_drewN | apply below_drew1) | exact HB.out)) hb); clear HO_0; clear HO_4; clear HO_5; clear HB; have HO_0 := n0_; have HO_4 := n1_; have HO_5 := n2_; have HB := n3_; clear n0_ n1_ n2_ n3_; (try clear hb); (try clear hb2); (try clear hk); (try clear hi)))
              go_ret
              exact ⟨by first | rfl | (simp [errW_none, errW_some] <;> rfl) | (simp [*, errW_none, errW_some] <;> rfl), by repeat (first | (with_reducible first | exact HB.out | apply below_alloc | apply pw_below_drewN | apply below_drew1) | exact HB.out)⟩
            · replace c58 := Bool.eq_false_iff.mpr c58
              subst c58
              have H1 : (none) = some r := by rw [if_neg (show ¬ (false = true) by decide)] at H; exact H
              clear H
              have H := H1
              clear H1
              exact absurd H (by simp)
          · rw [if_neg c57] at H
            exact absurd H (by simp)
  · rw [if_neg c4] at H
    exact absurd H (by simp)

/-- THE ONE PURE STATEMENT of phaetonlaw06_ArbRounds. -/
def phaetonlaw06_ArbRounds.Pure : Prop := ∀ (l0 : List (S35)), l0.length ≤ maxLen → (∀ x ∈ l0, (fun (x : S35) => (fun (_ : Bool) => True) x.f0 ∧ ((fun (x : Int) => (Lit.int .i64 x).wf = true) x.f1 ∧ ((fun (_ : Bool) => True) x.f2 ∧ ((fun (x : Int) => (Lit.int .i64 x).wf = true) x.f3 ∧ ((fun (l : List Int) => ∀ x ∈ l, (fun (x : Int) => (Lit.int .u8 x).wf = true) x) x.f4))))) x) → ∃ k, phaetonlaw06_ArbRounds.f k l0 = some true
theorem phaetonlaw06_ArbRounds.walk (P : phaetonlaw06_ArbRounds.Pure) (A0 : Option Addr) (c0 : Nat) (l0 : List (S35)) (w : World) (hw0 : ∀ x ∈ l0, (fun (x : S35) => (fun (_ : Bool) => True) x.f0 ∧ ((fun (x : Int) => (Lit.int .i64 x).wf = true) x.f1 ∧ ((fun (_ : Bool) => True) x.f2 ∧ ((fun (x : Int) => (Lit.int .i64 x).wf = true) x.f3 ∧ ((fun (l : List Int) => ∀ x ∈ l, (fun (x : Int) => (Lit.int .u8 x).wf = true) x) x.f4))))) x) (hr0 : Kd.C k35 w A0 l0.length l0) (hc0 : l0.length ≤ c0) :
    Calls Try.prog 9 #[.slice A0 l0.length c0] w fun e w' => e = .returned (.bool true) ∧ Below w.heap.size w w' := by
  obtain ⟨k, h⟩ := P l0 (by have := hr0.2.1; unfold maxLen; omega) hw0
  refine (phaetonlaw06_ArbRounds.calls k _ _ l0 true w hr0 hc0 h).mono ?_
  rintro e w' ⟨rfl, hd⟩
  exact ⟨rfl, hd⟩

/-! ### phaetonlaw06_ArbAnd: function 10 -/
mutual
def phaetonlaw06_ArbAnd.l0 : Nat → List Int → Int → Bool → List Int → List Int → Int → Option (Bool)
  | 0, _, _, _, _, _, _ => none
  | k + 1, x0, x1, x5, x6, x7, x8 => if x8 ≥ 0 then (if 0 ≤ x8 then (if x8 < (x0.length : Int) then (if x7.length < 17592186044416 then (phaetonlaw06_ArbAnd.l0 k x0 x1 x5 x6 (x7 ++ [rd x0 x8]) (wrap64 (x8 - 1))) else (none)) else (none)) else (none)) else ((arb_And.f k x0).bind fun t578 => (phaetonlaw06_ArbAnd.l1 k x0 x1 x5 x6 x7 t578 0))
def phaetonlaw06_ArbAnd.l1 : Nat → List Int → Int → Bool → List Int → List Int → Int → Int → Option (Bool)
  | 0, _, _, _, _, _, _, _ => none
  | k + 1, x0, x1, x5, x6, x7, x9, x10 => if x10 < (x0.length : Int) then (if 0 ≤ x10 then (if x9 > (rd x0 x10) then (none) else (phaetonlaw06_ArbAnd.l1 k x0 x1 x5 x6 x7 x9 (wrap64 (x10 + 1)))) else (none)) else (if x9 = 0 then ((arb_And.f k x7).bind fun t580 => (if t580 = x9 then ((arb_And.f k x6).bind fun t581 => (if t581 = (mn x9 x1) then (if x5 = true then (some true) else (none)) else (none))) else (none))) else (if x9 = 1 then ((arb_And.f k x7).bind fun t582 => (if t582 = x9 then ((arb_And.f k x6).bind fun t583 => (if t583 = (mn x9 x1) then (if x5 = true then (some true) else (none)) else (none))) else (none))) else (none)))
end
def phaetonlaw06_ArbAnd.f (k : Nat) (l0 : List Int) (a1 : Int) : Option (Bool) := (phaetonlaw06_head.f k).bind fun t558 => ((phaetonref03_Bits.f k l0 50).bind fun t559 => ((some (([] : List Int) : List Int)).bind fun y562 => (if y562.length + t559.length < 17592186044416 then ((some (y562 ++ t559 : List Int)).bind fun y565 => (if y565.length < 17592186044416 then (phaetonlaw06_ArbAnd.l0 k t559 (Go.bits .and .i64 a1 1) t558 (y565 ++ [Go.bits .and .i64 a1 1]) (([] : List Int)) (wrap64 ((t559.length : Int) - 1))) else (none))) else (none))))
theorem phaetonlaw06_ArbAnd.mono_l : ∀ k, (∀ y0 y1 y2 y3 y4 y5, LeO (phaetonlaw06_ArbAnd.l0 k y0 y1 y2 y3 y4 y5) (phaetonlaw06_ArbAnd.l0 (k + 1) y0 y1 y2 y3 y4 y5)) ∧ (∀ y0 y1 y2 y3 y4 y5 y6, LeO (phaetonlaw06_ArbAnd.l1 k y0 y1 y2 y3 y4 y5 y6) (phaetonlaw06_ArbAnd.l1 (k + 1) y0 y1 y2 y3 y4 y5 y6))
  | 0 => ⟨fun _ _ _ _ _ _ r h => by simp [phaetonlaw06_ArbAnd.l0] at h, fun _ _ _ _ _ _ _ r h => by simp [phaetonlaw06_ArbAnd.l1] at h⟩
  | k + 1 => by
    obtain ⟨ih0, ih1⟩ := phaetonlaw06_ArbAnd.mono_l k
    refine ⟨?_, ?_⟩
    · intro y0 y1 y2 y3 y4 y5
      unfold phaetonlaw06_ArbAnd.l0
      repeat' first
      | (with_reducible exact ih0 _ _ _ _ _ _)
      | (with_reducible exact ih1 _ _ _ _ _ _ _)
      | (with_reducible exact arb_And.mono _ _)
      | (with_reducible exact phaetonlaw06_head.mono _)
      | (with_reducible exact phaetonref03_Bits.mono _ _ _)
      | (with_reducible exact LeO.refl _)
      | (with_reducible exact LeO.none _)
      | (with_reducible refine LeO.ite ?_ ?_)
      | (with_reducible refine LeO.bind ?_ (fun _ => ?_))
      | exact ih0 _ _ _ _ _ _
      | exact ih1 _ _ _ _ _ _ _
      | exact arb_And.mono _ _
      | exact phaetonlaw06_head.mono _
      | exact phaetonref03_Bits.mono _ _ _
      | exact LeO.none _
      | refine LeO.ite ?_ ?_
      | refine LeO.bind ?_ (fun _ => ?_)
    · intro y0 y1 y2 y3 y4 y5 y6
      unfold phaetonlaw06_ArbAnd.l1
      repeat' first
      | (with_reducible exact ih0 _ _ _ _ _ _)
      | (with_reducible exact ih1 _ _ _ _ _ _ _)
      | (with_reducible exact arb_And.mono _ _)
      | (with_reducible exact phaetonlaw06_head.mono _)
      | (with_reducible exact phaetonref03_Bits.mono _ _ _)
      | (with_reducible exact LeO.refl _)
      | (with_reducible exact LeO.none _)
      | (with_reducible refine LeO.ite ?_ ?_)
      | (with_reducible refine LeO.bind ?_ (fun _ => ?_))
      | exact ih0 _ _ _ _ _ _
      | exact ih1 _ _ _ _ _ _ _
      | exact arb_And.mono _ _
      | exact phaetonlaw06_head.mono _
      | exact phaetonref03_Bits.mono _ _ _
      | exact LeO.none _
      | refine LeO.ite ?_ ?_
      | refine LeO.bind ?_ (fun _ => ?_)
theorem phaetonlaw06_ArbAnd.mono : ∀ a0 a1 k, LeO (phaetonlaw06_ArbAnd.f k a0 a1) (phaetonlaw06_ArbAnd.f (k + 1) a0 a1) := by
  intro a0 a1 k
  obtain ⟨ih0, ih1⟩ := phaetonlaw06_ArbAnd.mono_l k
  unfold phaetonlaw06_ArbAnd.f
  repeat' first
      | (with_reducible exact ih0 _ _ _ _ _ _)
      | (with_reducible exact ih1 _ _ _ _ _ _ _)
      | (with_reducible exact arb_And.mono _ _)
      | (with_reducible exact phaetonlaw06_head.mono _)
      | (with_reducible exact phaetonref03_Bits.mono _ _ _)
      | (with_reducible exact LeO.refl _)
      | (with_reducible exact LeO.none _)
      | (with_reducible refine LeO.ite ?_ ?_)
      | (with_reducible refine LeO.bind ?_ (fun _ => ?_))
      | exact ih0 _ _ _ _ _ _
      | exact ih1 _ _ _ _ _ _ _
      | exact arb_And.mono _ _
      | exact phaetonlaw06_head.mono _
      | exact phaetonref03_Bits.mono _ _ _
      | exact LeO.none _
      | refine LeO.ite ?_ ?_
      | refine LeO.bind ?_ (fun _ => ?_)
set_option maxHeartbeats 8000000 in
set_option maxRecDepth 100000 in
theorem phaetonlaw06_ArbAnd.calls (k : Nat) (A0 : Option Addr) (c0 : Nat) (l0 : List Int) (a1 : Int) (r : Bool) (w : World) (hr0 : Kd.C (Kd.int .i64) w A0 l0.length l0) (hc0 : l0.length ≤ c0) (h : phaetonlaw06_ArbAnd.f k l0 a1 = some r) :
    Calls Try.prog 10 #[.slice A0 l0.length c0, .int .i64 a1] w fun e w' => e = .returned (.bool r) ∧ Below w.heap.size w w' := by
  have HR0 := Aside0.mk hr0
  have HC0 := Aside0.mk hc0
  clear hr0 hc0
  have HB := Aside0.mk (Below.refl w.heap.size w)
  have H : ((phaetonlaw06_head.f k).bind fun t558 => ((phaetonref03_Bits.f k l0 50).bind fun t559 => ((some (([] : List Int) : List Int)).bind fun y562 => (if y562.length + t559.length < 17592186044416 then ((some (y562 ++ t559 : List Int)).bind fun y565 => (if y565.length < 17592186044416 then (phaetonlaw06_ArbAnd.l0 k t559 (Go.bits .and .i64 a1 1) t558 (y565 ++ [Go.bits .and .i64 a1 1]) (([] : List Int)) (wrap64 ((t559.length : Int) - 1))) else (none))) else (none))))) = some r := h
  clear h
  replace H := Option.bind_eq_some_iff.mp H
  obtain ⟨t558, A30, H⟩ := H
  replace H : ((phaetonref03_Bits.f k l0 50).bind fun t559 => ((some (([] : List Int) : List Int)).bind fun y562 => (if y562.length + t559.length < 17592186044416 then ((some (y562 ++ t559 : List Int)).bind fun y565 => (if y565.length < 17592186044416 then (phaetonlaw06_ArbAnd.l0 k t559 (Go.bits .and .i64 a1 1) t558 (y565 ++ [Go.bits .and .i64 a1 1]) (([] : List Int)) (wrap64 ((t559.length : Int) - 1))) else (none))) else (none)))) = some r := H
  have A3 := Aside0.mk A30
  clear A30
  replace H := Option.bind_eq_some_iff.mp H
  obtain ⟨t559, A40, H⟩ := H
  replace H : ((some (([] : List Int) : List Int)).bind fun y562 => (if y562.length + t559.length < 17592186044416 then ((some (y562 ++ t559 : List Int)).bind fun y565 => (if y565.length < 17592186044416 then (phaetonlaw06_ArbAnd.l0 k t559 (Go.bits .and .i64 a1 1) t558 (y565 ++ [Go.bits .and .i64 a1 1]) (([] : List Int)) (wrap64 ((t559.length : Int) - 1))) else (none))) else (none))) = some r := H
  have A4 := Aside0.mk A40
  clear A40
  obtain ⟨y562, hy562⟩ : ∃ y_ : List Int, y_ = (([] : List Int)) := ⟨_, rfl⟩
  replace H : (if y562.length + t559.length < 17592186044416 then ((some (y562 ++ t559 : List Int)).bind fun y565 => (if y565.length < 17592186044416 then (phaetonlaw06_ArbAnd.l0 k t559 (Go.bits .and .i64 a1 1) t558 (y565 ++ [Go.bits .and .i64 a1 1]) (([] : List Int)) (wrap64 ((t559.length : Int) - 1))) else (none))) else (none)) = some r := by first | (rw [hy562]; with_reducible exact H) | (have H2_ := (Option.bind_some _ _).symm.trans H; rw [hy562]; with_reducible exact H2_) | (have H2_ := (Option.bind_some _ _).symm.trans H; with_reducible exact H2_) | with_reducible exact H | (rw [hy562]; exact H) | exact H
  have Ny562 := Aside0.mk hy562
  clear hy562
  by_cases c5 : y562.length + t559.length < 17592186044416
  · rw [if_pos c5] at H
    have LMc5 := Aside0.mk c5
    clear c5
    obtain ⟨y565, hy565⟩ : ∃ y_ : List Int, y_ = (y562 ++ t559) := ⟨_, rfl⟩
    replace H : (if y565.length < 17592186044416 then (phaetonlaw06_ArbAnd.l0 k t559 (Go.bits .and .i64 a1 1) t558 (y565 ++ [Go.bits .and .i64 a1 1]) (([] : List Int)) (wrap64 ((t559.length : Int) - 1))) else (none)) = some r := by first | (rw [hy565]; with_reducible exact H) | (have H2_ := (Option.bind_some _ _).symm.trans H; rw [hy565]; with_reducible exact H2_) | (have H2_ := (Option.bind_some _ _).symm.trans H; with_reducible exact H2_) | with_reducible exact H | (rw [hy565]; exact H) | exact H
    have Ny565 := Aside0.mk hy565
    clear hy565
    obtain ⟨y568, hy568⟩ : ∃ y_ : List Int, y_ = (([] : List Int)) := ⟨_, rfl⟩
    replace H : (if y565.length < 17592186044416 then (phaetonlaw06_ArbAnd.l0 k t559 (Go.bits .and .i64 a1 1) t558 (y565 ++ [Go.bits .and .i64 a1 1]) y568 (wrap64 ((t559.length : Int) - 1))) else (none)) = some r := by first | (rw [hy568]; with_reducible exact H) | (have H2_ := (Option.bind_some _ _).symm.trans H; rw [hy568]; with_reducible exact H2_) | (have H2_ := (Option.bind_some _ _).symm.trans H; with_reducible exact H2_) | with_reducible exact H | (rw [hy568]; exact H) | exact H
    have Ny568 := Aside0.mk hy568
    clear hy568
    by_cases c6 : y565.length < 17592186044416
    · rw [if_pos c6] at H
      have LMc6 := Aside0.mk c6
      clear c6
      obtain ⟨y571, hy571⟩ : ∃ y_ : List Int, y_ = (y565 ++ [Go.bits .and .i64 a1 1]) := ⟨_, rfl⟩
      replace H : (phaetonlaw06_ArbAnd.l0 k t559 (Go.bits .and .i64 a1 1) t558 y571 y568 (wrap64 ((t559.length : Int) - 1))) = some r := by first | (rw [hy571]; with_reducible exact H) | (have H2_ := (Option.bind_some _ _).symm.trans H; rw [hy571]; with_reducible exact H2_) | (have H2_ := (Option.bind_some _ _).symm.trans H; with_reducible exact H2_) | with_reducible exact H | (rw [hy571]; exact H) | exact H
      have Ny571 := Aside0.mk hy571
      clear hy571
      have H' := Aside0.mk H
      clear H
      go_enter Try.func10, Try.ntmps10
      (try simp only [List.append])
      go_wp2_with (first | ((with_reducible refine gate_callee (f := 11) rfl ?_); refine goesL_ (some 11) rfl rfl Try.func11 (by kernel_rfl) rfl #[] rfl (by (try simp only [List.map_toArray, List.map_cons, List.map_nil]); first | done | rfl | (simp only [List.length_drop, List.length_take]; rfl)) ?_; (with_reducible refine (phaetonlaw06_head.calls k  t558 _ A3.out).mono ?_); rintro e w7 ⟨rfl, hb⟩; refine ⟨_, rfl, ?_⟩; have n0_ := Aside0.mk (below_step (by repeat (first | (with_reducible first | exact HB.out | apply below_alloc | apply pw_below_drewN | apply below_drew1) | exact HB.out)) hb); clear HB; have HB := n0_; clear n0_; (try clear hb); (try clear hb2); (try clear hk); (try clear hi)) | ((with_reducible refine gate_callee (f := 13) rfl ?_); refine goesL_ (some 13) rfl rfl Try.func13 (by kernel_rfl) rfl #[.slice A0 l0.length c0, .int .i64 50] rfl (by (try simp only [List.map_toArray, List.map_cons, List.map_nil]); first | done | rfl | (simp only [List.length_drop, List.length_take]; rfl)) ?_; (with_reducible refine (phaetonref03_Bits.calls k _ _ l0 50 t559 _ ?side1 ?side2 A4.out).mono ?_); (case side1 => repeat (first | exact (Kd.C_below HR0.out HB.out) | (with_reducible refine Kd.C_alloc ?_ _) | (with_reducible refine Kd.C_drewN ?_ _) | (with_reducible refine Kd.C_drew ?_))); (case side2 => exact HC0.out); rintro e w8 ⟨v560, rfl, ho0, hb⟩; refine ⟨_, rfl, ?_⟩; have n0_ := Aside0.mk (Kd.R_lower ho0 (below_size (by repeat (first | (with_reducible first | exact HB.out | apply below_alloc | apply pw_below_drewN | apply below_drew1) | exact HB.out)))); have n1_ := Aside0.mk (below_step (by repeat (first | (with_reducible first | exact HB.out | apply below_alloc | apply pw_below_drewN | apply below_drew1) | exact HB.out)) hb); clear HB; have HO561 := n0_; have HB := n1_; clear n0_ n1_; (try clear hb); (try clear hb2); (try clear hk); (try clear hi); (try clear ho0)) | ((with_reducible refine gate_dst (N := 16) rfl ?_); (try (refine gate_guard (by rfl) ?_; dsimp only)); refine Kd.R_lit (Kd.int .i64) _ 3 ?hg (N := 16) ?hd (xs := ([] : List Int)) (inner := []) (ok := fun _ => True) (okp := fun _ => True) ?hr ?hp (fun _ hk => hk) trivial (Below.refl _ _) (Nat.le_refl _) (by simp) ?_; (case hd => rfl); (case hg => rfl); (case hr => first | (go_simp; done) | (go_simp; rfl)); (case hp => exact (Reps.none _ _)); intro v563 w9 ho10 hb hg_ hnew_; clear hg_ hnew_; (first | rw [← Ny562.out] at ho10 | (simp only [Int.reduceToNat] at ho10; rw [← Ny562.out] at ho10)); have n0_ := Aside0.mk (Kd.R_elder' (by (with_reducible repeat (first | apply Kd.R_alloc | apply Kd.R_drewN | apply Kd.R_drew)); exact HO561.out) (Kd.R_base ho10) hb); have n1_ := Aside0.mk (Kd.R_lower (Kd.R_new' ho10 (Kd.R_lt (by (with_reducible repeat (first | apply Kd.R_alloc | apply Kd.R_drewN | apply Kd.R_drew)); exact HO561.out))) (below_size (by repeat (first | (with_reducible first | exact HB.out | apply below_alloc | apply pw_below_drewN | apply below_drew1) | exact HB.out)))); have n2_ := Aside0.mk (below_step (by repeat (first | (with_reducible first | exact HB.out | apply below_alloc | apply pw_below_drewN | apply below_drew1) | exact HB.out)) hb); clear HO561; clear HB; have HO561 := n0_; have HO564 := n1_; have HB := n2_; clear n0_ n1_ n2_; clear hb ho10; obtain ⟨Ao12, co12, eo12⟩ := Kd.R_slice HO561.out; subst eo12) | ((with_reducible refine gate_builtin (b := .append) (xs := #[.tmp 16, .tmp 17]) rfl ?_); (try (refine gate_guard (by rfl) ?_; dsimp only)); at_builtin; refine Kd.R_append_rows (Kd.int .i64) (w0 := w) w.heap.size rfl (.tmp 16) (.tmp 17) 23 3 (.int .i64 0) 8 rfl Try.underlying23 info3 rfl (by decide) (by omega) v563 y562 t559 _ _ _ (fun k_ => some k_ ≠ (.slice Ao12 t559.length co12 : Value).ownBlock) (fun _ => False) rfl rfl ?aO ?aR (fun _ _ h => h) (fun _ h => h.elim) ?aF ?aB ?aS ?aL ?_; (case aR => repeat (first | exact (Kd.R_reads' HO561.out).2.2 | (with_reducible refine Kd.C_alloc ?_ _) | (with_reducible refine Kd.C_drewN ?_ _) | (with_reducible refine Kd.C_drew ?_))); (case aB => exact (by repeat (first | (with_reducible first | exact HB.out | apply below_alloc | apply pw_below_drewN | apply below_drew1) | exact HB.out))); (case aF => exact (fun k_ hk => Kd.fresh' (Kd.R_lt (by (with_reducible repeat (first | apply Kd.R_alloc | apply Kd.R_drewN | apply Kd.R_drew)); exact HO561.out)) k_ hk)); (case aO => exact (by (with_reducible repeat (first | apply Kd.R_alloc | apply Kd.R_drewN | apply Kd.R_drew)); exact Kd.R_mono HO564.out (fun _ hk => hk.2))); (case aS => exact (below_size (by repeat (first | (with_reducible first | exact HB.out | apply below_alloc | apply pw_below_drewN | apply below_drew1) | exact HB.out)))); (case aL => have := LMc5.out; omega); intro v566 w11 ho hb hg hat; rw [← Ny565.out] at ho; have n0_ := Aside0.mk (Kd.R_after (ok := (fun _ => True)) (by (with_reducible repeat (first | apply Kd.R_alloc | apply Kd.R_drewN | apply Kd.R_drew)); exact HO561.out) hg hat); have n1_ := Aside0.mk (hb); have n2_ := Aside0.mk (ho); clear HO561; clear HB; clear HO564; have HO561 := n0_; have HB := n1_; have HO567 := n2_; clear n0_ n1_ n2_; clear ho hb hg hat) | ((with_reducible refine gate_dst (N := 19) rfl ?_); (try (refine gate_guard (by rfl) ?_; dsimp only)); refine Kd.R_lit (Kd.int .i64) _ 3 ?hg (N := 19) ?hd (xs := ([] : List Int)) (inner := []) (ok := fun _ => True) (okp := fun _ => True) ?hr ?hp (fun _ hk => hk) trivial (Below.refl _ _) (Nat.le_refl _) (by simp) ?_; (case hd => rfl); (case hg => rfl); (case hr => first | (go_simp; done) | (go_simp; rfl)); (case hp => exact (Reps.none _ _)); intro v569 w13 ho14 hb hg_ hnew_; clear hg_ hnew_; (first | rw [← Ny568.out] at ho14 | (simp only [Int.reduceToNat] at ho14; rw [← Ny568.out] at ho14)); have n0_ := Aside0.mk (Kd.R_elder' (by (with_reducible repeat (first | apply Kd.R_alloc | apply Kd.R_drewN | apply Kd.R_drew)); exact HO561.out) (Kd.R_base ho14) hb); have n1_ := Aside0.mk (Kd.R_elder' (by (with_reducible repeat (first | apply Kd.R_alloc | apply Kd.R_drewN | apply Kd.R_drew)); exact HO567.out) (Kd.R_base ho14) hb); have n2_ := Aside0.mk (Kd.R_lower (Kd.R_new' (Kd.R_new' ho14 (Kd.R_lt (by (with_reducible repeat (first | apply Kd.R_alloc | apply Kd.R_drewN | apply Kd.R_drew)); exact HO561.out))) (Kd.R_lt (by (with_reducible repeat (first | apply Kd.R_alloc | apply Kd.R_drewN | apply Kd.R_drew)); exact HO567.out))) (below_size (by repeat (first | (with_reducible first | exact HB.out | apply below_alloc | apply pw_below_drewN | apply below_drew1) | exact HB.out)))); have n3_ := Aside0.mk (below_step (by repeat (first | (with_reducible first | exact HB.out | apply below_alloc | apply pw_below_drewN | apply below_drew1) | exact HB.out)) hb); clear HO561; clear HO567; clear HB; have HO561 := n0_; have HO567 := n1_; have HO570 := n2_; have HB := n3_; clear n0_ n1_ n2_ n3_; clear hb ho14) | ((with_reducible refine gate_builtin (b := .append) (xs := #[.tmp 20, .tmp 22]) rfl ?_); (try (refine gate_guard (by rfl) ?_; dsimp only)); at_builtin; refine Kd.R_append (Kd.int .i64) (w0 := w) w.heap.size rfl (.tmp 20) (.tmp 22) 23 3 (.int .i64 0) 8 rfl Try.underlying23 info3 rfl (by decide) (by omega) v566 y565 (Go.bits .and .i64 a1 1) [.int .i64 (Go.bits .and .i64 a1 1)] (fun k_ => some k_ ≠ (.slice Ao12 t559.length co12 : Value).ownBlock ∧ some k_ ≠ (v569 : Value).ownBlock) (fun _ => False) rfl rfl ?aP (fun _ hk => hk.elim) ?aF ?aO ?aB ?aS ?aL ?_; (case aP => exact rfl); (case aB => exact (by repeat (first | (with_reducible first | exact HB.out | apply below_alloc | apply pw_below_drewN | apply below_drew1) | exact HB.out))); (case aF => exact (fun k_ hk => ⟨Kd.fresh' (Kd.R_lt (by (with_reducible repeat (first | apply Kd.R_alloc | apply Kd.R_drewN | apply Kd.R_drew)); exact HO561.out)) k_ hk, Kd.fresh' (Kd.R_lt (by (with_reducible repeat (first | apply Kd.R_alloc | apply Kd.R_drewN | apply Kd.R_drew)); exact HO570.out)) k_ hk⟩)); (case aO => exact (by (with_reducible repeat (first | apply Kd.R_alloc | apply Kd.R_drewN | apply Kd.R_drew)); exact HO567.out)); (case aS => exact (below_size (by repeat (first | (with_reducible first | exact HB.out | apply below_alloc | apply pw_below_drewN | apply below_drew1) | exact HB.out)))); (case aL => have := LMc6.out; omega); intro v572 w15 ho hb hg hat; rw [← Ny571.out] at ho; have n0_ := Aside0.mk (Kd.R_after (ok := (fun k_ => some k_ ≠ (v569 : Value).ownBlock)) (by (with_reducible repeat (first | apply Kd.R_alloc | apply Kd.R_drewN | apply Kd.R_drew)); exact Kd.R_mono HO561.out (fun _ hk => ⟨hk.2, hk.1.2⟩)) hg hat); have n1_ := Aside0.mk (Kd.R_after (ok := (fun k_ => some k_ ≠ (.slice Ao12 t559.length co12 : Value).ownBlock)) (by (with_reducible repeat (first | apply Kd.R_alloc | apply Kd.R_drewN | apply Kd.R_drew)); exact Kd.R_mono HO570.out (fun k_ hk => by first | exact ⟨hk.1.2, hk.2⟩ | (refine ⟨?_, ?_⟩ <;> first | exact hk.1 | exact hk.2 | exact hk.1.2 | exact hk.2.2 | exact hk.1.1 | exact hk.2.1))) hg hat); have n2_ := Aside0.mk (hb); have n3_ := Aside0.mk (ho); clear HO561; clear HO570; clear HB; clear HO567; have HO561 := n0_; have HO570 := n1_; have HB := n2_; have HO573 := n3_; clear n0_ n1_ n2_ n3_; clear ho hb hg hat))
      go_loopg [7, 8] k (fun kq v7 v8 w' => ∃ (x7_1 : List Int) (x8_1 : Int), v8 = .int .i64 x8_1 ∧ Aside0 (phaetonlaw06_ArbAnd.l0 kq t559 (Go.bits .and .i64 a1 1) t558 y571 x7_1 x8_1 = some r) ∧ Aside0 (kq ≤ k) ∧ Aside0 (Kd.R (Kd.int .i64) 3 w' w.heap.size (fun k_ => some k_ ≠ (v572 : Value).ownBlock ∧ some k_ ≠ (v7 : Value).ownBlock) (.slice Ao12 t559.length co12) t559) ∧ Aside0 (Kd.R (Kd.int .i64) 3 w' w.heap.size (fun k_ => some k_ ≠ ((.slice Ao12 t559.length co12) : Value).ownBlock ∧ some k_ ≠ (v7 : Value).ownBlock) v572 y571) ∧ Aside0 (Kd.R (Kd.int .i64) 3 w' w.heap.size (fun k_ => some k_ ≠ ((.slice Ao12 t559.length co12) : Value).ownBlock ∧ some k_ ≠ (v572 : Value).ownBlock) v7 x7_1) ∧ Aside0 (Below w.heap.size w w'))
      case atStart => exact ⟨(y568), (wrap64 ((t559.length : Int) - 1)), (by first | rfl | (simp; done) | (simp [*]; done)), H', ⟨Nat.le_refl _⟩, ⟨by (with_reducible repeat (first | apply Kd.R_alloc | apply Kd.R_drewN | apply Kd.R_drew)); exact Kd.R_mono HO561.out (fun _ hk => ⟨hk.2, hk.1⟩)⟩, ⟨by (with_reducible repeat (first | apply Kd.R_alloc | apply Kd.R_drewN | apply Kd.R_drew)); exact HO573.out⟩, ⟨by (with_reducible repeat (first | apply Kd.R_alloc | apply Kd.R_drewN | apply Kd.R_drew)); exact HO570.out⟩, ⟨by repeat (first | (with_reducible first | exact HB.out | apply below_alloc | apply pw_below_drewN | apply below_drew1) | exact HB.out)⟩⟩
      case round =>
        clear H'
        try clear c1
        try clear p2
        try clear c5
        try clear c6
        try clear p6
        try clear c10
        try clear c11
        try clear c13
        obtain ⟨x7_1, x8_1, rfl, HA, HK1, HO_0, HO_6, HO_7, HB⟩ := hrel
        cases gk with
        | zero => exact absurd HA.out (by simp [phaetonlaw06_ArbAnd.l0])
        | succ k1 =>
          have H := HA.out
          clear HA
          simp only [phaetonlaw06_ArbAnd.l0] at H
          by_cases c16 : x8_1 ≥ 0
          · rw [if_pos c16] at H
            have c16b0 : decide (0 ≤ x8_1) = true := decide_eq_true c16
            clear c16
            by_cases c17 : 0 ≤ x8_1
            · rw [if_pos c17] at H
              have c17b0 : decide (0 ≤ x8_1) = true := decide_eq_true c17
              clear c17
              by_cases c18 : x8_1 < (t559.length : Int)
              · rw [if_pos c18] at H
                have c18b0 : decide (x8_1 < (t559.length : Int)) = true := decide_eq_true c18
                clear c18
                by_cases c19 : x7_1.length < 17592186044416
                · rw [if_pos c19] at H
                  have LMc19 := Aside0.mk c19
                  clear c19
                  obtain ⟨y575, hy575⟩ : ∃ y_ : List Int, y_ = (x7_1 ++ [rd t559 x8_1]) := ⟨_, rfl⟩
                  replace H : (phaetonlaw06_ArbAnd.l0 k1 t559 (Go.bits .and .i64 a1 1) t558 y571 y575 (wrap64 (x8_1 - 1))) = some r := by first | (rw [hy575]; with_reducible exact H) | (have H2_ := (Option.bind_some _ _).symm.trans H; rw [hy575]; with_reducible exact H2_) | (have H2_ := (Option.bind_some _ _).symm.trans H; with_reducible exact H2_) | with_reducible exact H | (rw [hy575]; exact H) | exact H
                  have Ny575 := Aside0.mk hy575
                  clear hy575
                  have H' := Aside0.mk H
                  clear H
                  have p574 : 0 ≤ (x8_1 : Int) := of_decide_eq_true (by first | (with_reducible assumption) | assumption)
                  have q574 : x8_1 < (t559.length : Int) := of_decide_eq_true (by first | (with_reducible assumption) | assumption)
                  obtain ⟨ad574, e574, hx574_0⟩ := Kd.at_int (Kd.R_reads' HO_0.out).2.2 x8_1 p574 q574
                  cases e574
                  replace p574 := eq_true p574
                  replace q574 := eq_true q574
                  go_wp2_with (first | ((with_reducible refine gate_builtin (b := .append) (xs := #[.tmp 31, .tmp 36]) rfl ?_); (try (refine gate_guard (by rfl) ?_; dsimp only)); at_builtin; refine Kd.R_append (Kd.int .i64) (w0 := w) w.heap.size rfl (.tmp 31) (.tmp 36) 23 3 (.int .i64 0) 8 rfl Try.underlying23 info3 rfl (by decide) (by omega) u7 x7_1 (rd t559 x8_1) [.int .i64 (rd t559 x8_1)] (fun k_ => some k_ ≠ (.slice (some ad574) t559.length co12 : Value).ownBlock ∧ some k_ ≠ (v572 : Value).ownBlock) (fun _ => False) rfl rfl ?aP (fun _ hk => hk.elim) ?aF ?aO ?aB ?aS ?aL ?_; (case aP => exact rfl); (case aB => exact (by repeat (first | (with_reducible first | exact HB.out | apply below_alloc | apply pw_below_drewN | apply below_drew1) | exact HB.out))); (case aF => exact (fun k_ hk => ⟨Kd.fresh' (Kd.R_lt (by (with_reducible repeat (first | apply Kd.R_alloc | apply Kd.R_drewN | apply Kd.R_drew)); exact HO_0.out)) k_ hk, Kd.fresh' (Kd.R_lt (by (with_reducible repeat (first | apply Kd.R_alloc | apply Kd.R_drewN | apply Kd.R_drew)); exact HO_6.out)) k_ hk⟩)); (case aO => exact (by (with_reducible repeat (first | apply Kd.R_alloc | apply Kd.R_drewN | apply Kd.R_drew)); exact HO_7.out)); (case aS => exact (below_size (by repeat (first | (with_reducible first | exact HB.out | apply below_alloc | apply pw_below_drewN | apply below_drew1) | exact HB.out)))); (case aL => have := LMc19.out; omega); intro v576 w20 ho hb hg hat; rw [← Ny575.out] at ho; have n0_ := Aside0.mk (Kd.R_after (ok := (fun k_ => some k_ ≠ (v572 : Value).ownBlock)) (by (with_reducible repeat (first | apply Kd.R_alloc | apply Kd.R_drewN | apply Kd.R_drew)); exact HO_0.out) hg hat); have n1_ := Aside0.mk (Kd.R_after (ok := (fun k_ => some k_ ≠ (.slice (some ad574) t559.length co12 : Value).ownBlock)) (by (with_reducible repeat (first | apply Kd.R_alloc | apply Kd.R_drewN | apply Kd.R_drew)); exact HO_6.out) hg hat); have n2_ := Aside0.mk (hb); have n3_ := Aside0.mk (ho); clear HO_0; clear HO_6; clear HB; clear HO_7; have HO_0 := n0_; have HO_6 := n1_; have HB := n2_; have HO577 := n3_; clear n0_ n1_ n2_ n3_; clear ho hb hg hat))
                  go_roundg k1
                  case measure => have := HK1.out; omega
                  case rel => exact ⟨(y575), (wrap64 (x8_1 - 1)), (by first | rfl | (simp; done) | (simp [*]; done)), H', ⟨by have := HK1.out; omega⟩, ⟨by (with_reducible repeat (first | apply Kd.R_alloc | apply Kd.R_drewN | apply Kd.R_drew)); exact HO_0.out⟩, ⟨by (with_reducible repeat (first | apply Kd.R_alloc | apply Kd.R_drewN | apply Kd.R_drew)); exact HO_6.out⟩, ⟨by (with_reducible repeat (first | apply Kd.R_alloc | apply Kd.R_drewN | apply Kd.R_drew)); exact HO577.out⟩, ⟨by repeat (first | (with_reducible first | exact HB.out | apply below_alloc | apply pw_below_drewN | apply below_drew1) | exact HB.out)⟩⟩
                · rw [if_neg c19] at H
                  exact absurd H (by simp)
              · rw [if_neg c18] at H
                exact absurd H (by simp)
            · rw [if_neg c17] at H
              exact absurd H (by simp)
          · rw [if_neg c16] at H
            have c16b0 : decide (0 ≤ x8_1) = false := decide_eq_false c16
            clear c16
            replace H := Option.bind_eq_some_iff.mp H
            obtain ⟨t578, A210, H⟩ := H
            replace H : (phaetonlaw06_ArbAnd.l1 k1 t559 (Go.bits .and .i64 a1 1) t558 y571 x7_1 t578 0) = some r := H
            have A21 := Aside0.mk A210
            clear A210
            have H' := Aside0.mk H
            clear H
            go_wp2_with (first | ((with_reducible refine gate_callee (f := 21) rfl ?_); refine goesL_ (some 39) rfl rfl Try.func21 (by kernel_rfl) rfl #[.slice Ao12 t559.length co12] rfl (by (try simp only [List.map_toArray, List.map_cons, List.map_nil]); first | done | rfl | (simp only [List.length_drop, List.length_take]; rfl)) ?_; (with_reducible refine (arb_And.calls k1 _ _ t559 t578 _ ?side1 ?side2 A21.out).mono ?_); (case side1 => repeat (first | exact (Kd.R_reads' HO_0.out).2.2 | (with_reducible refine Kd.C_alloc ?_ _) | (with_reducible refine Kd.C_drewN ?_ _) | (with_reducible refine Kd.C_drew ?_))); (case side2 => exact (Kd.R_reads' HO_0.out).2.1); rintro e w22 ⟨rfl, hb⟩; refine ⟨_, rfl, ?_⟩; have n0_ := Aside0.mk (Kd.R_below (by (with_reducible repeat (first | apply Kd.R_alloc | apply Kd.R_drewN | apply Kd.R_drew)); exact HO_0.out) hb); have n1_ := Aside0.mk (Kd.R_below (by (with_reducible repeat (first | apply Kd.R_alloc | apply Kd.R_drewN | apply Kd.R_drew)); exact HO_6.out) hb); have n2_ := Aside0.mk (Kd.R_below (by (with_reducible repeat (first | apply Kd.R_alloc | apply Kd.R_drewN | apply Kd.R_drew)); exact HO_7.out) hb); have n3_ := Aside0.mk (below_step (by repeat (first | (with_reducible first | exact HB.out | apply below_alloc | apply pw_below_drewN | apply below_drew1) | exact HB.out)) hb); clear HO_0; clear HO_6; clear HO_7; clear HB; have HO_0 := n0_; have HO_6 := n1_; have HO_7 := n2_; have HB := n3_; clear n0_ n1_ n2_ n3_; (try clear hb); (try clear hb2); (try clear hk); (try clear hi)))
            go_loopg [10] k1 (fun kq v10 w' => ∃ (x10_2 : Int), v10 = .int .i64 x10_2 ∧ Aside0 (phaetonlaw06_ArbAnd.l1 kq t559 (Go.bits .and .i64 a1 1) t558 y571 x7_1 t578 x10_2 = some r) ∧ Aside0 (kq ≤ k1) ∧ Aside0 (Kd.R (Kd.int .i64) 3 w' w.heap.size (fun k_ => some k_ ≠ (v572 : Value).ownBlock ∧ some k_ ≠ (u7 : Value).ownBlock) (.slice Ao12 t559.length co12) t559) ∧ Aside0 (Kd.R (Kd.int .i64) 3 w' w.heap.size (fun k_ => some k_ ≠ ((.slice Ao12 t559.length co12) : Value).ownBlock ∧ some k_ ≠ (u7 : Value).ownBlock) v572 y571) ∧ Aside0 (Kd.R (Kd.int .i64) 3 w' w.heap.size (fun k_ => some k_ ≠ ((.slice Ao12 t559.length co12) : Value).ownBlock ∧ some k_ ≠ (v572 : Value).ownBlock) u7 x7_1) ∧ Aside0 (Below w.heap.size w w'))
            case atStart => exact ⟨(0), (by first | rfl | (simp; done) | (simp [*]; done)), H', ⟨Nat.le_refl _⟩, ⟨by (with_reducible repeat (first | apply Kd.R_alloc | apply Kd.R_drewN | apply Kd.R_drew)); exact HO_0.out⟩, ⟨by (with_reducible repeat (first | apply Kd.R_alloc | apply Kd.R_drewN | apply Kd.R_drew)); exact HO_6.out⟩, ⟨by (with_reducible repeat (first | apply Kd.R_alloc | apply Kd.R_drewN | apply Kd.R_drew)); exact HO_7.out⟩, ⟨by repeat (first | (with_reducible first | exact HB.out | apply below_alloc | apply pw_below_drewN | apply below_drew1) | exact HB.out)⟩⟩
            case round =>
              clear H'
              try clear c1
              try clear c2
              try clear p2
              try clear c5
              try clear p5
              try clear q5
              try clear hx5
              try clear c6
              try clear p6
              try clear c10
              try clear c11
              try clear c13
              try clear c16
              try clear c16b0
              try clear c17
              try clear c17b0
              try clear c18
              try clear c18b0
              try clear c19
              try clear c21
              try clear hx574_0
              try clear p2
              try clear p574
              try clear p6
              try clear q574
              obtain ⟨x10_2, rfl, HA, HK2, HO_0, HO_6, HO_7, HB⟩ := hrel
              cases gk with
              | zero => exact absurd HA.out (by simp [phaetonlaw06_ArbAnd.l1])
              | succ k2 =>
                have H := HA.out
                clear HA
                simp only [phaetonlaw06_ArbAnd.l1] at H
                by_cases c23 : x10_2 < (t559.length : Int)
                · rw [if_pos c23] at H
                  have c23b0 : decide (x10_2 < (t559.length : Int)) = true := decide_eq_true c23
                  clear c23
                  by_cases c24 : 0 ≤ x10_2
                  · rw [if_pos c24] at H
                    have c24b0 : decide (0 ≤ x10_2) = true := decide_eq_true c24
                    clear c24
                    by_cases c25 : t578 > (rd t559 x10_2)
                    · rw [if_pos c25] at H
                      exact absurd H (by simp)
                    · rw [if_neg c25] at H
                      have c25b0 : decide ((rd t559 x10_2) < t578) = false := decide_eq_false c25
                      clear c25
                      have H' := Aside0.mk H
                      clear H
                      have p579 : 0 ≤ (x10_2 : Int) := of_decide_eq_true (by first | (with_reducible assumption) | assumption)
                      have q579 : x10_2 < (t559.length : Int) := of_decide_eq_true (by first | (with_reducible assumption) | assumption)
                      obtain ⟨ad579, e579, hx579_0⟩ := Kd.at_int (Kd.R_reads' HO_0.out).2.2 x10_2 p579 q579
                      cases e579
                      replace p579 := eq_true p579
                      replace q579 := eq_true q579
                      go_wp2
                      go_roundg k2
                      case measure => have := HK1.out; have := HK2.out; omega
                      case rel => exact ⟨(wrap64 (x10_2 + 1)), (by first | rfl | (simp; done) | (simp [*]; done)), H', ⟨by have := HK1.out; have := HK2.out; omega⟩, ⟨by (with_reducible repeat (first | apply Kd.R_alloc | apply Kd.R_drewN | apply Kd.R_drew)); exact HO_0.out⟩, ⟨by (with_reducible repeat (first | apply Kd.R_alloc | apply Kd.R_drewN | apply Kd.R_drew)); exact HO_6.out⟩, ⟨by (with_reducible repeat (first | apply Kd.R_alloc | apply Kd.R_drewN | apply Kd.R_drew)); exact HO_7.out⟩, ⟨by repeat (first | (with_reducible first | exact HB.out | apply below_alloc | apply pw_below_drewN | apply below_drew1) | exact HB.out)⟩⟩
                  · rw [if_neg c24] at H
                    exact absurd H (by simp)
                · rw [if_neg c23] at H
                  have c23b0 : decide (x10_2 < (t559.length : Int)) = false := decide_eq_false c23
                  clear c23
                  by_cases c26 : t578 = 0
                  · rw [if_pos c26] at H
                    have c26b0 : (t578 == 0) = true := beq_iff_eq.mpr c26
                    have c26b1 : (t578 != 0) = false := bne_eq_false_iff_eq.mpr c26
                    clear c26
                    replace H := Option.bind_eq_some_iff.mp H
                    obtain ⟨t580, A270, H⟩ := H
                    replace H : (if t580 = t578 then ((arb_And.f k2 y571).bind fun t581 => (if t581 = (mn t578 (Go.bits .and .i64 a1 1)) then (if t558 = true then (some true) else (none)) else (none))) else (none)) = some r := H
                    have A27 := Aside0.mk A270
                    clear A270
                    by_cases c28 : t580 = t578
                    · rw [if_pos c28] at H
                      have c28b0 : (t580 == t578) = true := beq_iff_eq.mpr c28
                      have c28b1 : (t580 != t578) = false := bne_eq_false_iff_eq.mpr c28
                      clear c28
                      replace H := Option.bind_eq_some_iff.mp H
                      obtain ⟨t581, A290, H⟩ := H
                      replace H : (if t581 = (mn t578 (Go.bits .and .i64 a1 1)) then (if t558 = true then (some true) else (none)) else (none)) = some r := H
                      have A29 := Aside0.mk A290
                      clear A290
                      obtain ⟨ji30, hji30⟩ : ∃ j_ : Int, (mn t578 (Go.bits .and .i64 a1 1)) = j_ := ⟨_, rfl⟩
                      replace H : (if t581 = (ji30) then (if t558 = true then (some true) else (none)) else (none)) = some r := by first | (rw [hji30] at H; exact H) | (simp only [hji30] at H ⊢; exact H)
                      (try rw [hji30] at A27)
                      (try rw [hji30] at A29)
                      have hji30_ : (if (Go.bits .and .i64 a1 1) < t578 then (Go.bits .and .i64 a1 1) else t578) = ji30 := hji30
                      by_cases c31 : t581 = (ji30)
                      · rw [if_pos c31] at H
                        have c31b0 : (t581 == (ji30)) = true := beq_iff_eq.mpr c31
                        have c31b1 : (t581 != (ji30)) = false := bne_eq_false_iff_eq.mpr c31
                        clear c31
                        by_cases c32 : t558 = true
                        · subst c32
                          have H1 : (some true) = some r := by rw [if_pos rfl] at H; exact H
                          clear H
                          have H := H1
                          clear H1
                          obtain rfl := Option.some.inj H
                          obtain ⟨Ao33, co33, eo33⟩ := Kd.R_slice HO_7.out
                          subst eo33
                          go_wp2_with (first | (go_at_call 21; (with_reducible refine (arb_And.calls k2 _ _ x7_1 t580 _ ?side1 ?side2 A27.out).mono ?_); (case side1 => repeat (first | exact (Kd.R_reads' HO_7.out).2.2 | (with_reducible refine Kd.C_alloc ?_ _) | (with_reducible refine Kd.C_drewN ?_ _) | (with_reducible refine Kd.C_drew ?_))); (case side2 => exact (Kd.R_reads' HO_7.out).2.1); rintro e w34 ⟨rfl, hb⟩; have n0_ := Aside0.mk (Kd.R_below (by (with_reducible repeat (first | apply Kd.R_alloc | apply Kd.R_drewN | apply Kd.R_drew)); exact HO_0.out) hb); have n1_ := Aside0.mk (Kd.R_below (by (with_reducible repeat (first | apply Kd.R_alloc | apply Kd.R_drewN | apply Kd.R_drew)); exact HO_6.out) hb); have n2_ := Aside0.mk (Kd.R_below (by (with_reducible repeat (first | apply Kd.R_alloc | apply Kd.R_drewN | apply Kd.R_drew)); exact HO_7.out) hb); have n3_ := Aside0.mk (below_step (by repeat (first | (with_reducible first | exact HB.out | apply below_alloc | apply pw_below_drewN | apply below_drew1) | exact HB.out)) hb); clear HO_0; clear HO_6; clear HO_7; clear HB; have HO_0 := n0_; have HO_6 := n1_; have HO_7 := n2_; have HB := n3_; clear n0_ n1_ n2_ n3_; (try clear hb); (try clear hb2); (try clear hk); (try clear hi); obtain ⟨Ao35, co35, eo35⟩ := Kd.R_slice HO_6.out; subst eo35) | (go_at_call 21; (with_reducible refine (arb_And.calls k2 _ _ y571 t581 _ ?side1 ?side2 A29.out).mono ?_); (case side1 => repeat (first | exact (Kd.R_reads' HO_6.out).2.2 | (with_reducible refine Kd.C_alloc ?_ _) | (with_reducible refine Kd.C_drewN ?_ _) | (with_reducible refine Kd.C_drew ?_))); (case side2 => exact (Kd.R_reads' HO_6.out).2.1); rintro e w36 ⟨rfl, hb⟩; have n0_ := Aside0.mk (Kd.R_below (by (with_reducible repeat (first | apply Kd.R_alloc | apply Kd.R_drewN | apply Kd.R_drew)); exact HO_0.out) hb); have n1_ := Aside0.mk (Kd.R_below (by (with_reducible repeat (first | apply Kd.R_alloc | apply Kd.R_drewN | apply Kd.R_drew)); exact HO_6.out) hb); have n2_ := Aside0.mk (Kd.R_below (by (with_reducible repeat (first | apply Kd.R_alloc | apply Kd.R_drewN | apply Kd.R_drew)); exact HO_7.out) hb); have n3_ := Aside0.mk (below_step (by repeat (first | (with_reducible first | exact HB.out | apply below_alloc | apply pw_below_drewN | apply below_drew1) | exact HB.out)) hb); clear HO_0; clear HO_6; clear HO_7; clear HB; have HO_0 := n0_; have HO_6 := n1_; have HO_7 := n2_; have HB := n3_; clear n0_ n1_ n2_ n3_; (try clear hb); (try clear hb2); (try clear hk); (try clear hi)))
                          go_ret
                          exact ⟨by first | rfl | (simp [errW_none, errW_some] <;> rfl) | (simp only [← hji30]; first | rfl | (simp [errW_none, errW_some] <;> rfl)) | (simp [*, errW_none, errW_some] <;> rfl), by repeat (first | (with_reducible first | exact HB.out | apply below_alloc | apply pw_below_drewN | apply below_drew1) | exact HB.out)⟩
                        · replace c32 := Bool.eq_false_iff.mpr c32
                          subst c32
                          have H1 : (none) = some r := by rw [if_neg (show ¬ (false = true) by decide)] at H; exact H
                          clear H
                          have H := H1
                          clear H1
                          exact absurd H (by simp)
                      · rw [if_neg c31] at H
                        exact absurd H (by simp)
                    · rw [if_neg c28] at H
                      exact absurd H (by simp)
                  · rw [if_neg c26] at H
                    have c26b0 : (t578 == 0) = false := beq_eq_false_iff_ne.mpr c26
                    have c26b1 : (t578 != 0) = true := bne_iff_ne.mpr c26
                    by_cases c37 : t578 = 1
                    · rw [if_pos c37] at H
                      have c37b0 : (t578 == 1) = true := beq_iff_eq.mpr c37
                      have c37b1 : (t578 != 1) = false := bne_eq_false_iff_eq.mpr c37
                      clear c37
                      replace H := Option.bind_eq_some_iff.mp H
                      obtain ⟨t582, A380, H⟩ := H
                      replace H : (if t582 = t578 then ((arb_And.f k2 y571).bind fun t583 => (if t583 = (mn t578 (Go.bits .and .i64 a1 1)) then (if t558 = true then (some true) else (none)) else (none))) else (none)) = some r := H
                      have A38 := Aside0.mk A380
                      clear A380
                      by_cases c39 : t582 = t578
                      · rw [if_pos c39] at H
                        have c39b0 : (t582 == t578) = true := beq_iff_eq.mpr c39
                        have c39b1 : (t582 != t578) = false := bne_eq_false_iff_eq.mpr c39
                        clear c39
                        replace H := Option.bind_eq_some_iff.mp H
                        obtain ⟨t583, A400, H⟩ := H
                        replace H : (if t583 = (mn t578 (Go.bits .and .i64 a1 1)) then (if t558 = true then (some true) else (none)) else (none)) = some r := H
                        have A40 := Aside0.mk A400
                        clear A400
                        obtain ⟨ji41, hji41⟩ : ∃ j_ : Int, (mn t578 (Go.bits .and .i64 a1 1)) = j_ := ⟨_, rfl⟩
                        replace H : (if t583 = (ji41) then (if t558 = true then (some true) else (none)) else (none)) = some r := by first | (rw [hji41] at H; exact H) | (simp only [hji41] at H ⊢; exact H)
                        (try rw [hji41] at A38)
                        (try rw [hji41] at A40)
                        have hji41_ : (if (Go.bits .and .i64 a1 1) < t578 then (Go.bits .and .i64 a1 1) else t578) = ji41 := hji41
                        by_cases c42 : t583 = (ji41)
                        · rw [if_pos c42] at H
                          have c42b0 : (t583 == (ji41)) = true := beq_iff_eq.mpr c42
                          have c42b1 : (t583 != (ji41)) = false := bne_eq_false_iff_eq.mpr c42
                          clear c42
                          by_cases c43 : t558 = true
                          · subst c43
                            have H1 : (some true) = some r := by rw [if_pos rfl] at H; exact H
                            clear H
                            have H := H1
                            clear H1
                            obtain rfl := Option.some.inj H
                            obtain ⟨Ao44, co44, eo44⟩ := Kd.R_slice HO_7.out
                            subst eo44
                            go_wp2_with (first | (go_at_call 21; (with_reducible refine (arb_And.calls k2 _ _ x7_1 t582 _ ?side1 ?side2 A38.out).mono ?_); (case side1 => repeat (first | exact (Kd.R_reads' HO_7.out).2.2 | (with_reducible refine Kd.C_alloc ?_ _) | (with_reducible refine Kd.C_drewN ?_ _) | (with_reducible refine Kd.C_drew ?_))); (case side2 => exact (Kd.R_reads' HO_7.out).2.1); rintro e w45 ⟨rfl, hb⟩; have n0_ := Aside0.mk (Kd.R_below (by (with_reducible repeat (first | apply Kd.R_alloc | apply Kd.R_drewN | apply Kd.R_drew)); exact HO_0.out) hb); have n1_ := Aside0.mk (Kd.R_below (by (with_reducible repeat (first | apply Kd.R_alloc | apply Kd.R_drewN | apply Kd.R_drew)); exact HO_6.out) hb); have n2_ := Aside0.mk (Kd.R_below (by (with_reducible repeat (first | apply Kd.R_alloc | apply Kd.R_drewN | apply Kd.R_drew)); exact HO_7.out) hb); have n3_ := Aside0.mk (below_step (by repeat (first | (with_reducible first | exact HB.out | apply below_alloc | apply pw_below_drewN | apply below_drew1) | exact HB.out)) hb); clear HO_0; clear HO_6; clear HO_7; clear HB; have HO_0 := n0_; have HO_6 := n1_; have HO_7 := n2_; have HB := n3_; clear n0_ n1_ n2_ n3_; (try clear hb); (try clear hb2); (try clear hk); (try clear hi); obtain ⟨Ao46, co46, eo46⟩ := Kd.R_slice HO_6.out; subst eo46) | (go_at_call 21; (with_reducible refine (arb_And.calls k2 _ _ y571 t583 _ ?side1 ?side2 A40.out).mono ?_); (case side1 => repeat (first | exact (Kd.R_reads' HO_6.out).2.2 | (with_reducible refine Kd.C_alloc ?_ _) | (with_reducible refine Kd.C_drewN ?_ _) | (with_reducible refine Kd.C_drew ?_))); (case side2 => exact (Kd.R_reads' HO_6.out).2.1); rintro e w47 ⟨rfl, hb⟩; have n0_ := Aside0.mk (Kd.R_below (by (with_reducible repeat (first | apply Kd.R_alloc | apply Kd.R_drewN | apply Kd.R_drew)); exact HO_0.out) hb); have n1_ := Aside0.mk (Kd.R_below (by (with_reducible repeat (first | apply Kd.R_alloc | apply Kd.R_drewN | apply Kd.R_drew)); exact HO_6.out) hb); have n2_ := Aside0.mk (Kd.R_below (by (with_reducible repeat (first | apply Kd.R_alloc | apply Kd.R_drewN | apply Kd.R_drew)); exact HO_7.out) hb); have n3_ := Aside0.mk (below_step (by repeat (first | (with_reducible first | exact HB.out | apply below_alloc | apply pw_below_drewN | apply below_drew1) | exact HB.out)) hb); clear HO_0; clear HO_6; clear HO_7; clear HB; have HO_0 := n0_; have HO_6 := n1_; have HO_7 := n2_; have HB := n3_; clear n0_ n1_ n2_ n3_; (try clear hb); (try clear hb2); (try clear hk); (try clear hi)))
                            go_ret
                            exact ⟨by first | rfl | (simp [errW_none, errW_some] <;> rfl) | (simp only [← hji41]; first | rfl | (simp [errW_none, errW_some] <;> rfl)) | (simp [*, errW_none, errW_some] <;> rfl), by repeat (first | (with_reducible first | exact HB.out | apply below_alloc | apply pw_below_drewN | apply below_drew1) | exact HB.out)⟩
                          · replace c43 := Bool.eq_false_iff.mpr c43
                            subst c43
                            have H1 : (none) = some r := by rw [if_neg (show ¬ (false = true) by decide)] at H; exact H
                            clear H
                            have H := H1
                            clear H1
                            exact absurd H (by simp)
                        · rw [if_neg c42] at H
                          exact absurd H (by simp)
                      · rw [if_neg c39] at H
                        exact absurd H (by simp)
                    · rw [if_neg c37] at H
                      exact absurd H (by simp)
    · rw [if_neg c6] at H
      exact absurd H (by simp)
  · rw [if_neg c5] at H
    exact absurd H (by simp)

/-- THE ONE PURE STATEMENT of phaetonlaw06_ArbAnd: yours. -/
def phaetonlaw06_ArbAnd.Pure : Prop := ∀ (l0 : List Int) (a1 : Int), l0.length ≤ maxLen → l0.length * 8 ≤ 140737488351232 → (∀ x ∈ l0, (Lit.int .i64 x).wf = true) → (Lit.int .i64 a1).wf = true → ∃ k, phaetonlaw06_ArbAnd.f k l0 a1 = some true
theorem phaetonlaw06_ArbAnd.walk (P : phaetonlaw06_ArbAnd.Pure) (a0 : Option Addr) (len0 cap0 : Nat) (z0 : List Int) (a1 : Int) (w : World) (w0 : (a0 = none ∧ len0 = 0 ∧ cap0 = 0 ∧ z0 = []) ∨ ∃ x, a0 = some x ∧ len0 ≤ cap0 ∧ cap0 ≤ maxLen ∧ z0.length = cap0 ∧ (∀ i, i < z0.length → w.cell? (x.add i) = some (.int .i64 (z0.getD i 0))) ∧ ∀ n ∈ z0, (Lit.int .i64 n).wf = true) (y0 : len0 * 8 ≤ 140737488351232) (w1 : (Lit.int .i64 a1).wf = true) :
    Calls Try.prog 10 #[.slice a0 len0 cap0, .int .i64 a1] w fun e w' => e = .returned (.bool true) ∧ Below w.heap.size w w' := by
  obtain ⟨l0, rfl, hr0, hm0, hw0, hc0⟩ := ReadsInt.ofRowC w0
  obtain ⟨k, h⟩ := P l0 a1 hm0 y0 hw0 w1
  refine (phaetonlaw06_ArbAnd.calls k _ _ l0 a1 true w (Kd.C_of_reads (d := (0 : Int)) (h1 := fun _ => rfl) hr0) hc0 h).mono ?_
  rintro e w' ⟨rfl, hd⟩
  exact ⟨rfl, hd⟩

end Go.Proofs.Ytcdbndjicjghgaa.Px

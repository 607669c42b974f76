-- Written by myprint.py, a program of this session's, over the kit's print.py; not a text of print.sh's own.
import Derived.Test.YtcakokhhpihmlaaPx0
import Derived.Test.YtcakokhhpihmlaaPx1
import Derived.Test.YtcakokhhpihmlaaPx2
import Derived.Test.YtcakokhhpihmlaaPx3
namespace Go.Proofs.Ytcakokhhpihmlaa.Px
open Go.RowKit Go.Proofs.YtcakokhhpihmlaaW.PrintWords Go.Proofs.YtcakokhhpihmlaaW.PrintLast Go.Proofs.YtcakokhhpihmlaaW.PrintMore
attribute [local go_sem] max2_int min2_int max_two min_two max_three min_three max_four min_four   -- for this text's walks alone
set_option linter.unusedVariables false
set_option linter.unusedSimpArgs false

/-! ### phaetonref01_Join: function 16 -/
mutual
def phaetonref01_Join.j0 : Nat → List Int → Bool → Option (List Int × Bool)
  | 0, _, _ => none
  | k + 1, x0, x16 => if x16 = true then (some (([] : List Int), false)) else (phaetonref01_Join.l0 k x0 ([] : List Int) 0)
def phaetonref01_Join.l0 : Nat → List Int → List Int → Int → Option (List Int × Bool)
  | 0, _, _, _ => none
  | k + 1, x0, x4, x5 => if x5 < (x0.length : Int) then (if 0 ≤ x5 then (if x5 ≤ (wrap64 (x5 + 8)) then (if (wrap64 (x5 + 8)) ≤ (x0.length : Int) then ((phaetonref01_Get.f k ((x0.take ((wrap64 (x5 + 8)) : Int).toNat).drop (x5 : Int).toNat)).bind fun bt180 => (if x4.length < 140737488355328 then (phaetonref01_Join.l0 k x0 (x4 ++ [(bt180.1) % 256]) (wrap64 (x5 + 8))) else (none))) else (none)) else (none)) else (none)) else (some (x4, true))
end
def phaetonref01_Join.f (k : Nat) (l0 : List Int) : Option (List Int × Bool) := (phaetonref01_Right.f k l0).bind fun t178 => (if t178 = true then (phaetonref01_Join.j0 k l0 (((l0.length : Int) % 8) != 0)) else (phaetonref01_Join.j0 k l0 true))
theorem phaetonref01_Join.mono_l : ∀ k, (∀ y0 y1, LeO (phaetonref01_Join.j0 k y0 y1) (phaetonref01_Join.j0 (k + 1) y0 y1)) ∧ (∀ y0 y1 y2, LeO (phaetonref01_Join.l0 k y0 y1 y2) (phaetonref01_Join.l0 (k + 1) y0 y1 y2))
  | 0 => ⟨fun _ _ r h => by simp [phaetonref01_Join.j0] at h, fun _ _ _ r h => by simp [phaetonref01_Join.l0] at h⟩
  | k + 1 => by
    obtain ⟨ih0, ih1⟩ := phaetonref01_Join.mono_l k
    refine ⟨?_, ?_⟩
    · intro y0 y1
      unfold phaetonref01_Join.j0
      repeat' first
      | (with_reducible exact ih0 _ _)
      | (with_reducible exact ih1 _ _ _)
      | (with_reducible exact phaetonref01_Get.mono _ _)
      | (with_reducible exact phaetonref01_Right.mono _ _)
      | (with_reducible exact LeO.refl _)
      | (with_reducible exact LeO.none _)
      | (with_reducible refine LeO.ite ?_ ?_)
      | (with_reducible refine LeO.bind ?_ (fun _ => ?_))
      | exact ih0 _ _
      | exact ih1 _ _ _
      | exact phaetonref01_Get.mono _ _
      | exact phaetonref01_Right.mono _ _
      | exact LeO.none _
      | refine LeO.ite ?_ ?_
      | refine LeO.bind ?_ (fun _ => ?_)
    · intro y0 y1 y2
      unfold phaetonref01_Join.l0
      repeat' first
      | (with_reducible exact ih0 _ _)
      | (with_reducible exact ih1 _ _ _)
      | (with_reducible exact phaetonref01_Get.mono _ _)
      | (with_reducible exact phaetonref01_Right.mono _ _)
      | (with_reducible exact LeO.refl _)
      | (with_reducible exact LeO.none _)
      | (with_reducible refine LeO.ite ?_ ?_)
      | (with_reducible refine LeO.bind ?_ (fun _ => ?_))
      | exact ih0 _ _
      | exact ih1 _ _ _
      | exact phaetonref01_Get.mono _ _
      | exact phaetonref01_Right.mono _ _
      | exact LeO.none _
      | refine LeO.ite ?_ ?_
      | refine LeO.bind ?_ (fun _ => ?_)
theorem phaetonref01_Join.mono : ∀ a0 k, LeO (phaetonref01_Join.f k a0) (phaetonref01_Join.f (k + 1) a0) := by
  intro a0 k
  obtain ⟨ih0, ih1⟩ := phaetonref01_Join.mono_l k
  unfold phaetonref01_Join.f
  repeat' first
      | (with_reducible exact ih0 _ _)
      | (with_reducible exact ih1 _ _ _)
      | (with_reducible exact phaetonref01_Get.mono _ _)
      | (with_reducible exact phaetonref01_Right.mono _ _)
      | (with_reducible exact LeO.refl _)
      | (with_reducible exact LeO.none _)
      | (with_reducible refine LeO.ite ?_ ?_)
      | (with_reducible refine LeO.bind ?_ (fun _ => ?_))
      | exact ih0 _ _
      | exact ih1 _ _ _
      | exact phaetonref01_Get.mono _ _
      | exact phaetonref01_Right.mono _ _
      | exact LeO.none _
      | refine LeO.ite ?_ ?_
      | refine LeO.bind ?_ (fun _ => ?_)
set_option maxHeartbeats 8000000 in
set_option maxRecDepth 100000 in
theorem phaetonref01_Join.calls (k : Nat) (A0 : Option Addr) (c0 : Nat) (l0 : List Int) (r1 : List Int) (r2 : Bool) (w : World) (hr0 : Kd.C (Kd.int .i64) w A0 l0.length l0) (hc0 : l0.length ≤ c0) (h : phaetonref01_Join.f k l0 = some (r1, r2)) :
    Calls Try.prog 16 #[.slice A0 l0.length c0] w fun e w' => ∃ v0_ : Value, e = .returned (.tuple #[v0_, .bool r2]) ∧ Kd.R (Kd.int .u8) 5 w' w.heap.size (fun _ => True) v0_ r1 ∧ Below w.heap.size w w' := by
  have HR0 := Aside0.mk hr0
  have HC0 := Aside0.mk hc0
  clear hr0 hc0
  have HB := Aside0.mk (Below.refl w.heap.size w)
  have H : ((phaetonref01_Right.f k l0).bind fun t178 => (if t178 = true then (phaetonref01_Join.j0 k l0 (((l0.length : Int) % 8) != 0)) else (phaetonref01_Join.j0 k l0 true))) = some (r1, r2) := h
  clear h
  have HC2 := Aside0.mk H
  clear H
  go_enter Try.func16, Try.ntmps16
  go_upto_region 1 with (fail)
  go_cut [16] (fun v16 wc => ∃ (kq : Nat) (x16_1 : Bool), v16 = .bool x16_1 ∧ Aside0 (phaetonref01_Join.j0 kq l0 x16_1 = some (r1, r2)) ∧ Aside0 (kq ≤ k) ∧ Aside0 (Below w.heap.size w wc))
  case first =>
    have H := HC2.out
    clear HC2
    replace H := Option.bind_eq_some_iff.mp H
    obtain ⟨t178, A30, H⟩ := H
    replace H : (if t178 = true then (phaetonref01_Join.j0 k l0 (((l0.length : Int) % 8) != 0)) else (phaetonref01_Join.j0 k l0 true)) = some (r1, r2) := H
    have A3 := Aside0.mk A30
    clear A30
    by_cases c4 : t178 = true
    · subst c4
      have H1 : (phaetonref01_Join.j0 k l0 (((l0.length : Int) % 8) != 0)) = some (r1, r2) := by rw [if_pos rfl] at H; exact H
      clear H
      have H := H1
      clear H1
      have H' := Aside0.mk H
      clear H
      go_wp2_with (first | ((with_reducible refine gate_callee (f := 18) rfl ?_); refine goesL_ (some 9) rfl rfl Try.func18 (by kernel_rfl) rfl #[.slice A0 l0.length c0] rfl (by (try simp only [List.map_toArray, List.map_cons, List.map_nil]); first | done | rfl | (simp only [List.length_drop, List.length_take]; rfl)) ?_; (with_reducible refine (phaetonref01_Right.calls k _ _ l0 true _ ?side1 ?side2 A3.out).mono ?_); (case side1 => repeat (first | exact (Kd.C_below HR0.out HB.out) | (with_reducible refine Kd.C_alloc ?_ _) | (with_reducible refine Kd.C_drewN ?_ _) | (with_reducible refine Kd.C_drew ?_))); (case side2 => exact HC0.out); rintro e w' ⟨rfl, ⟨nd, rfl⟩⟩; refine ⟨_, rfl, ?_⟩))
      go_meet
      case rel => exact ⟨_, ((((l0.length : Int) % 8) != 0)), (by first | rfl | (simp; done) | (simp [*]; done)), H', ⟨by first | omega | exact Nat.le_refl _⟩, ⟨by repeat (first | (with_reducible first | exact HB.out | apply below_alloc | apply pw_below_drewN | apply below_drew1) | exact HB.out)⟩⟩
    · replace c4 := Bool.eq_false_iff.mpr c4
      subst c4
      have H1 : (phaetonref01_Join.j0 k l0 true) = some (r1, r2) := by rw [if_neg (show ¬ (false = true) by decide)] at H; exact H
      clear H
      have H := H1
      clear H1
      have H' := Aside0.mk H
      clear H
      go_wp2_with (first | ((with_reducible refine gate_callee (f := 18) rfl ?_); refine goesL_ (some 9) rfl rfl Try.func18 (by kernel_rfl) rfl #[.slice A0 l0.length c0] rfl (by (try simp only [List.map_toArray, List.map_cons, List.map_nil]); first | done | rfl | (simp only [List.length_drop, List.length_take]; rfl)) ?_; (with_reducible refine (phaetonref01_Right.calls k _ _ l0 false _ ?side1 ?side2 A3.out).mono ?_); (case side1 => repeat (first | exact (Kd.C_below HR0.out HB.out) | (with_reducible refine Kd.C_alloc ?_ _) | (with_reducible refine Kd.C_drewN ?_ _) | (with_reducible refine Kd.C_drew ?_))); (case side2 => exact HC0.out); rintro e w' ⟨rfl, ⟨nd, rfl⟩⟩; refine ⟨_, rfl, ?_⟩))
      go_meet
      case rel => exact ⟨_, (true), (by first | rfl | (simp; done) | (simp [*]; done)), H', ⟨by first | omega | exact Nat.le_refl _⟩, ⟨by repeat (first | (with_reducible first | exact HB.out | apply below_alloc | apply pw_below_drewN | apply below_drew1) | exact HB.out)⟩⟩
  case rest =>
    clear HC2
    try clear c1
    try clear p2
    try clear c4
    obtain ⟨kq, x16_1, rfl, HA, HJ1, HB⟩ := hcut
    cases kq with
    | zero => exact absurd HA.out (by simp [phaetonref01_Join.j0])
    | succ kj1 =>
      have H := HA.out
      clear HA
      simp only [phaetonref01_Join.j0] at H
      by_cases c5 : x16_1 = true
      · subst c5
        have H1 : (some (([] : List Int), false)) = some (r1, r2) := by rw [if_pos rfl] at H; exact H
        clear H
        have H := H1
        clear H1
        simp only [Option.some.injEq, Prod.mk.injEq] at H
        obtain ⟨rfl, rfl⟩ := H
        go_wp2
        go_ret2
        exact ⟨_, by first | rfl | (simp [errW_none, errW_some] <;> rfl) | (simp [*, errW_none, errW_some] <;> rfl), by first | exact Kd.R_nil _ _ _ _ _ | exact Kd.N_nil _ _ _ _ _ | exact Kd.V_nil _ _ _ _ _ | exact Kd.Q_nil _ _ _ _ _ | exact Kd.S_nil _ _ _ _ _, by repeat (first | (with_reducible first | exact HB.out | apply below_alloc | apply pw_below_drewN | apply below_drew1) | exact HB.out)⟩
      · replace c5 := Bool.eq_false_iff.mpr c5
        subst c5
        have H1 : (phaetonref01_Join.l0 kj1 l0 ([] : List Int) 0) = some (r1, r2) := by rw [if_neg (show ¬ (false = true) by decide)] at H; exact H
        clear H
        have H := H1
        clear H1
        have H' := Aside0.mk H
        clear H
        go_wp2
        go_loopg [4, 5] kj1 (fun kq v4 v5 w' => ∃ (x4_2 : List Int) (x5_2 : Int), v5 = .int .i64 x5_2 ∧ Aside0 (phaetonref01_Join.l0 kq l0 x4_2 x5_2 = some (r1, r2)) ∧ Aside0 (kq ≤ kj1) ∧ Aside0 (Kd.R (Kd.int .u8) 5 w' w.heap.size (fun _ => True) v4 x4_2) ∧ Aside0 (Below w.heap.size w w'))
        case atStart => exact ⟨(([] : List Int)), (0), (by first | rfl | (simp; done) | (simp [*]; done)), H', ⟨Nat.le_refl _⟩, ⟨by first | exact Kd.R_nil _ _ _ _ _ | exact Kd.N_nil _ _ _ _ _ | exact Kd.V_nil _ _ _ _ _ | exact Kd.Q_nil _ _ _ _ _ | exact Kd.S_nil _ _ _ _ _⟩, ⟨by repeat (first | (with_reducible first | exact HB.out | apply below_alloc | apply pw_below_drewN | apply below_drew1) | exact HB.out)⟩⟩
        case round =>
          clear H'
          try clear c1
          try clear p2
          try clear c4
          try clear c5
          try clear p2
          obtain ⟨x4_2, x5_2, rfl, HA, HK2, HO_4, HB⟩ := hrel
          cases gk with
          | zero => exact absurd HA.out (by simp [phaetonref01_Join.l0])
          | succ k2 =>
            have H := HA.out
            clear HA
            simp only [phaetonref01_Join.l0] at H
            by_cases c6 : x5_2 < (l0.length : Int)
            · rw [if_pos c6] at H
              have c6b0 : decide (x5_2 < (l0.length : Int)) = true := decide_eq_true c6
              clear c6
              by_cases c7 : 0 ≤ x5_2
              · rw [if_pos c7] at H
                have c7b0 := eq_true c7
                have c7b1 : decide (0 ≤ x5_2) = true := decide_eq_true c7
                clear c7
                by_cases c8 : x5_2 ≤ (wrap64 (x5_2 + 8))
                · rw [if_pos c8] at H
                  have c8b0 := eq_true c8
                  have c8b1 : decide (x5_2 ≤ (wrap64 (x5_2 + 8))) = true := decide_eq_true c8
                  by_cases c9 : (wrap64 (x5_2 + 8)) ≤ (l0.length : Int)
                  · rw [if_pos c9] at H
                    have c9b0 := eq_true c9
                    have c9b1 : decide ((wrap64 (x5_2 + 8)) ≤ (l0.length : Int)) = true := decide_eq_true c9
                    replace H := Option.bind_eq_some_iff.mp H
                    obtain ⟨⟨t180, t181⟩, A100, H⟩ := H
                    replace H : (if x4_2.length < 140737488355328 then (phaetonref01_Join.l0 k2 l0 (x4_2 ++ [(t180) % 256]) (wrap64 (x5_2 + 8))) else (none)) = some (r1, r2) := H
                    have A10 := Aside0.mk A100
                    clear A100
                    by_cases c11 : x4_2.length < 140737488355328
                    · rw [if_pos c11] at H
                      have LMc11 := Aside0.mk c11
                      clear c11
                      obtain ⟨y182, hy182⟩ : ∃ y_ : List Int, y_ = (x4_2 ++ [(t180) % 256]) := ⟨_, rfl⟩
                      replace H : (phaetonref01_Join.l0 k2 l0 y182 (wrap64 (x5_2 + 8))) = some (r1, r2) := by first | (rw [hy182]; with_reducible exact H) | (have H2_ := (Option.bind_some _ _).symm.trans H; rw [hy182]; with_reducible exact H2_) | (have H2_ := (Option.bind_some _ _).symm.trans H; with_reducible exact H2_) | with_reducible exact H | (rw [hy182]; exact H) | exact H
                      have Ny182 := Aside0.mk hy182
                      clear hy182
                      have H' := Aside0.mk H
                      clear H
                      obtain ⟨i012, hi012, _, hsz12, _⟩ := info_parts info3
                      obtain ⟨A12, hcut12, hA12, hC12⟩ := print_mid_of (P := Try.prog) (Value.int .i64) 0 22 3 .i64 .i64 Try.underlying22 hi012 hsz12 A0 c0 l0 x5_2 (wrap64 (x5_2 + 8)) (of_decide_eq_true (by first | (with_reducible assumption) | assumption)) (by first | omega | exact of_decide_eq_true (by first | (with_reducible assumption) | assumption)) (of_decide_eq_true (by first | (with_reducible assumption) | assumption)) HC0.out
                      have HR179 := Aside0.mk (Kd.C_of_reads (h1 := fun _ => rfl) (hA12 _ (Kd.reads_of_C HR0.out)))
                      have HC179 := Aside0.mk hC12
                      clear hA12 hC12 hi012 hsz12
                      go_wp2_with (first | ((with_reducible refine gate_callee (f := 14) rfl ?_); refine goesL_ (some 29) rfl rfl Try.func14 (by kernel_rfl) rfl #[.slice A12 ((l0.take ((wrap64 (x5_2 + 8)) : Int).toNat).drop (x5_2 : Int).toNat).length (c0 - x5_2.toNat)] rfl (by (try simp only [List.map_toArray, List.map_cons, List.map_nil]); first | done | (rw [show ((l0.take ((wrap64 (x5_2 + 8)) : Int).toNat).drop (x5_2 : Int).toNat).length = ((wrap64 (x5_2 + 8)).toNat - x5_2.toNat) from (by rw [List.length_drop, List.length_take]; have h_ : ((wrap64 (x5_2 + 8)) : Int) ≤ (l0.length : Int) := of_decide_eq_true (by first | (with_reducible assumption) | assumption); omega)] <;> rfl) | rfl | (simp only [List.length_drop, List.length_take]; rfl)) ?_; (with_reducible refine (phaetonref01_Get.calls k2 _ _ ((l0.take ((wrap64 (x5_2 + 8)) : Int).toNat).drop (x5_2 : Int).toNat) t180 t181 _ ?side1 ?side2 A10.out).mono ?_); (case side1 => repeat (first | exact (Kd.C_below HR179.out HB.out) | (with_reducible refine Kd.C_alloc ?_ _) | (with_reducible refine Kd.C_drewN ?_ _) | (with_reducible refine Kd.C_drew ?_))); (case side2 => exact HC179.out); rintro e w' ⟨rfl, ⟨nd, rfl⟩⟩; refine ⟨_, rfl, ?_⟩) | ((with_reducible refine gate_builtin (b := .append) (xs := #[.tmp 32, .tmp 35]) rfl ?_); (try (refine gate_guard (by rfl) ?_; dsimp only)); at_builtin; refine Kd.R_append (Kd.int .u8) (w0 := w) w.heap.size rfl (.tmp 32) (.tmp 35) 23 5 (.int .u8 0) 1 rfl Try.underlying23 info5 rfl (by decide) (by omega) u4 x4_2 ((t180) % 256) [.int .u8 ((t180) % 256)] (fun _ => True) (fun _ => False) rfl rfl ?aP (fun _ hk => hk.elim) ?aF ?aO ?aB ?aS ?aL ?_; (case aP => exact rfl); (case aB => exact (by repeat (first | (with_reducible first | exact HB.out | apply below_alloc | apply pw_below_drewN | apply below_drew1) | exact HB.out))); (case aF => exact (fun _ _ => trivial)); (case aO => exact (by (with_reducible repeat (first | apply Kd.R_alloc | apply Kd.R_drewN | apply Kd.R_drew)); exact HO_4.out)); (case aS => exact (below_size (by repeat (first | (with_reducible first | exact HB.out | apply below_alloc | apply pw_below_drewN | apply below_drew1) | exact HB.out)))); (case aL => have := LMc11.out; omega); intro v183 w13 ho hb hg hat; rw [← Ny182.out] at ho; have n0_ := Aside0.mk (hb); have n1_ := Aside0.mk (ho); clear HB; clear HO_4; have HB := n0_; have HO184 := n1_; clear n0_ n1_; clear ho hb hg hat))
                      go_roundg k2
                      case measure => have := HJ1.out; have := HK2.out; omega
                      case rel => exact ⟨(y182), (wrap64 (x5_2 + 8)), (by first | rfl | (simp; done) | (simp [*]; done)), H', ⟨by have := HJ1.out; have := HK2.out; omega⟩, ⟨by (with_reducible repeat (first | apply Kd.R_alloc | apply Kd.R_drewN | apply Kd.R_drew)); exact HO184.out⟩, ⟨by repeat (first | (with_reducible first | exact HB.out | apply below_alloc | apply pw_below_drewN | apply below_drew1) | exact HB.out)⟩⟩
                    · rw [if_neg c11] at H
                      exact absurd H (by simp)
                  · rw [if_neg c9] at H
                    exact absurd H (by simp)
                · rw [if_neg c8] at H
                  exact absurd H (by simp)
              · rw [if_neg c7] at H
                exact absurd H (by simp)
            · rw [if_neg c6] at H
              have c6b0 : decide (x5_2 < (l0.length : Int)) = false := decide_eq_false c6
              clear c6
              simp only [Option.some.injEq, Prod.mk.injEq] at H
              obtain ⟨rfl, rfl⟩ := H
              go_wp2
              go_ret2
              exact ⟨_, by first | rfl | (simp [errW_none, errW_some] <;> rfl) | (simp [*, errW_none, errW_some] <;> rfl), by (with_reducible repeat (first | apply Kd.R_alloc | apply Kd.R_drewN | apply Kd.R_drew)); exact HO_4.out, by repeat (first | (with_reducible first | exact HB.out | apply below_alloc | apply pw_below_drewN | apply below_drew1) | exact HB.out)⟩

/-! ### phaetonref01_Spread: function 22 -/
def phaetonref01_Spread.l0 : Nat → List Int → List Int → Int → Option (List Int)
  | 0, _, _, _ => none
  | k + 1, x0, x3, x4 => if x4 < (x0.length : Int) then (if 0 ≤ x4 then ((phaetonref01_Put.f k (wrap64 (rd x0 x4)) 8).bind fun bt186 => (if x3.length + bt186.1.length < 17592186044416 then (phaetonref01_Spread.l0 k x0 (x3 ++ bt186.1) (wrap64 (x4 + 1))) else (none))) else (none)) else (some x3)
def phaetonref01_Spread.f (k : Nat) (l0 : List Int) : Option (List Int) := phaetonref01_Spread.l0 k l0 ([] : List Int) 0
theorem phaetonref01_Spread.mono_l : ∀ k, (∀ y0 y1 y2, LeO (phaetonref01_Spread.l0 k y0 y1 y2) (phaetonref01_Spread.l0 (k + 1) y0 y1 y2))
  | 0 => fun _ _ _ r h => by simp [phaetonref01_Spread.l0] at h
  | k + 1 => by
    have ih0 := phaetonref01_Spread.mono_l k
    · intro y0 y1 y2
      unfold phaetonref01_Spread.l0
      repeat' first
      | (with_reducible exact ih0 _ _ _)
      | (with_reducible exact phaetonref01_Put.mono _ _ _)
      | (with_reducible exact LeO.refl _)
      | (with_reducible exact LeO.none _)
      | (with_reducible refine LeO.ite ?_ ?_)
      | (with_reducible refine LeO.bind ?_ (fun _ => ?_))
      | exact ih0 _ _ _
      | exact phaetonref01_Put.mono _ _ _
      | exact LeO.none _
      | refine LeO.ite ?_ ?_
      | refine LeO.bind ?_ (fun _ => ?_)
theorem phaetonref01_Spread.mono : ∀ a0 k, LeO (phaetonref01_Spread.f k a0) (phaetonref01_Spread.f (k + 1) a0) := by
  intro a0 k
  have ih0 := phaetonref01_Spread.mono_l k
  unfold phaetonref01_Spread.f
  repeat' first
      | (with_reducible exact ih0 _ _ _)
      | (with_reducible exact phaetonref01_Put.mono _ _ _)
      | (with_reducible exact LeO.refl _)
      | (with_reducible exact LeO.none _)
      | (with_reducible refine LeO.ite ?_ ?_)
      | (with_reducible refine LeO.bind ?_ (fun _ => ?_))
      | exact ih0 _ _ _
      | exact phaetonref01_Put.mono _ _ _
      | exact LeO.none _
      | refine LeO.ite ?_ ?_
      | refine LeO.bind ?_ (fun _ => ?_)
set_option maxHeartbeats 8000000 in
set_option maxRecDepth 100000 in
theorem phaetonref01_Spread.calls (k : Nat) (A0 : Option Addr) (c0 : Nat) (l0 : List Int) (r : List Int) (w : World) (hr0 : Kd.C (Kd.int .u8) w A0 l0.length l0) (hc0 : l0.length ≤ c0) (h : phaetonref01_Spread.f k l0 = some r) :
    Calls Try.prog 22 #[.slice A0 l0.length c0] w fun e w' => ∃ v0_ : Value, e = .returned (v0_) ∧ Kd.R (Kd.int .i64) 3 w' w.heap.size (fun _ => True) v0_ r ∧ Below w.heap.size w w' := by
  have HR0 := Aside0.mk hr0
  have HC0 := Aside0.mk hc0
  clear hr0 hc0
  have HB := Aside0.mk (Below.refl w.heap.size w)
  have H : (phaetonref01_Spread.l0 k l0 ([] : List Int) 0) = some r := h
  clear h
  have H' := Aside0.mk H
  clear H
  go_enter Try.func22, Try.ntmps22
  go_wp2
  go_loopg [3, 4] k (fun kq v3 v4 w' => ∃ (x3_1 : List Int) (x4_1 : Int), v4 = .int .i64 x4_1 ∧ Aside0 (phaetonref01_Spread.l0 kq l0 x3_1 x4_1 = some r) ∧ Aside0 (kq ≤ k) ∧ Aside0 (Kd.R (Kd.int .i64) 3 w' w.heap.size (fun _ => True) v3 x3_1) ∧ Aside0 (Below w.heap.size w w'))
  case atStart => exact ⟨(([] : List Int)), (0), (by first | rfl | (simp; done) | (simp [*]; done)), H', ⟨Nat.le_refl _⟩, ⟨by first | exact Kd.R_nil _ _ _ _ _ | exact Kd.N_nil _ _ _ _ _ | exact Kd.V_nil _ _ _ _ _ | exact Kd.Q_nil _ _ _ _ _ | exact Kd.S_nil _ _ _ _ _⟩, ⟨by repeat (first | (with_reducible first | exact HB.out | apply below_alloc | apply pw_below_drewN | apply below_drew1) | exact HB.out)⟩⟩
  case round =>
    clear H'
    obtain ⟨x3_1, x4_1, rfl, HA, HK1, HO_3, HB⟩ := hrel
    cases gk with
    | zero => exact absurd HA.out (by simp [phaetonref01_Spread.l0])
    | succ k1 =>
      have H := HA.out
      clear HA
      simp only [phaetonref01_Spread.l0] at H
      by_cases c2 : x4_1 < (l0.length : Int)
      · rw [if_pos c2] at H
        have c2b0 : decide (x4_1 < (l0.length : Int)) = true := decide_eq_true c2
        clear c2
        by_cases c3 : 0 ≤ x4_1
        · rw [if_pos c3] at H
          have c3b0 : decide (0 ≤ x4_1) = true := decide_eq_true c3
          clear c3
          replace H := Option.bind_eq_some_iff.mp H
          obtain ⟨⟨t186, t187⟩, A40, H⟩ := H
          replace H : (if x3_1.length + t186.length < 17592186044416 then (phaetonref01_Spread.l0 k1 l0 (x3_1 ++ t186) (wrap64 (x4_1 + 1))) else (none)) = some r := H
          have A4 := Aside0.mk A40
          clear A40
          by_cases c5 : x3_1.length + t186.length < 17592186044416
          · rw [if_pos c5] at H
            have LMc5 := Aside0.mk c5
            clear c5
            obtain ⟨y190, hy190⟩ : ∃ y_ : List Int, y_ = (x3_1 ++ t186) := ⟨_, rfl⟩
            replace H : (phaetonref01_Spread.l0 k1 l0 y190 (wrap64 (x4_1 + 1))) = some r := by first | (rw [hy190]; with_reducible exact H) | (have H2_ := (Option.bind_some _ _).symm.trans H; rw [hy190]; with_reducible exact H2_) | (have H2_ := (Option.bind_some _ _).symm.trans H; with_reducible exact H2_) | with_reducible exact H | (rw [hy190]; exact H) | exact H
            have Ny190 := Aside0.mk hy190
            clear hy190
            have H' := Aside0.mk H
            clear H
            have p185 : 0 ≤ (x4_1 : Int) := of_decide_eq_true (by first | (with_reducible assumption) | assumption)
            have q185 : x4_1 < (l0.length : Int) := of_decide_eq_true (by first | (with_reducible assumption) | assumption)
            obtain ⟨ad185, e185, hx185_0⟩ := Kd.at_int HR0.out x4_1 p185 q185
            cases e185
            replace hx185_0 := (HB.out.cell (World.block_lt_of_cell? w _ hx185_0)).trans hx185_0
            replace p185 := eq_true p185
            replace q185 := eq_true q185
            go_wp2_with (first | ((with_reducible refine gate_callee (f := 12) rfl ?_); refine goesL_ (some 19) rfl rfl Try.func12 (by kernel_rfl) rfl #[.int .i64 (wrap64 (rd l0 x4_1)), .int .i64 8] rfl (by (try simp only [List.map_toArray, List.map_cons, List.map_nil]); first | done | rfl | (simp only [List.length_drop, List.length_take]; rfl)) ?_; (with_reducible refine (phaetonref01_Put.calls k1 (wrap64 (rd l0 x4_1)) 8 t186 t187 _ A4.out).mono ?_); rintro e w6 ⟨v188, rfl, ho0, hb⟩; refine ⟨_, rfl, ?_⟩; have n0_ := Aside0.mk (Kd.R_elder' (by (with_reducible repeat (first | apply Kd.R_alloc | apply Kd.R_drewN | apply Kd.R_drew)); exact HO_3.out) (Kd.R_base ho0) hb); have n1_ := Aside0.mk (Kd.R_lower (Kd.R_new' ho0 (Kd.R_lt (by (with_reducible repeat (first | apply Kd.R_alloc | apply Kd.R_drewN | apply Kd.R_drew)); exact HO_3.out))) (below_size (by repeat (first | (with_reducible first | exact HB.out | apply below_alloc | apply pw_below_drewN | apply below_drew1) | exact HB.out)))); have n2_ := Aside0.mk (below_step (by repeat (first | (with_reducible first | exact HB.out | apply below_alloc | apply pw_below_drewN | apply below_drew1) | exact HB.out)) hb); clear HO_3; clear HB; have HO_3 := n0_; have HO189 := n1_; have HB := n2_; clear n0_ n1_ n2_; (try clear hb); (try clear hb2); (try clear hk); (try clear hi); (try clear ho0); obtain ⟨Ao8, co8, eo8⟩ := Kd.R_slice HO189.out; subst eo8) | ((with_reducible refine gate_builtin (b := .append) (xs := #[.tmp 22, .tmp 23]) rfl ?_); at_builtin; refine Kd.R_append_rows (Kd.int .i64) (w0 := w) w.heap.size rfl (.tmp 22) (.tmp 23) 22 3 (.int .i64 0) 8 rfl Try.underlying22 info3 rfl (by decide) (by omega) u3 x3_1 t186 _ _ _ (fun k_ => some k_ ≠ (.slice Ao8 t186.length co8 : Value).ownBlock) (fun _ => False) rfl rfl ?aO ?aR (fun _ _ h => h) (fun _ h => h.elim) ?aF ?aB ?aS ?aL ?_; (case aR => repeat (first | exact (Kd.R_reads' HO189.out).2.2 | (with_reducible refine Kd.C_alloc ?_ _) | (with_reducible refine Kd.C_drewN ?_ _) | (with_reducible refine Kd.C_drew ?_))); (case aB => exact (by repeat (first | (with_reducible first | exact HB.out | apply below_alloc | apply pw_below_drewN | apply below_drew1) | exact HB.out))); (case aF => exact (fun k_ hk => Kd.fresh' (Kd.R_lt (by (with_reducible repeat (first | apply Kd.R_alloc | apply Kd.R_drewN | apply Kd.R_drew)); exact HO189.out)) k_ hk)); (case aO => exact (by (with_reducible repeat (first | apply Kd.R_alloc | apply Kd.R_drewN | apply Kd.R_drew)); exact Kd.R_mono HO_3.out (fun _ hk => hk.2))); (case aS => exact (below_size (by repeat (first | (with_reducible first | exact HB.out | apply below_alloc | apply pw_below_drewN | apply below_drew1) | exact HB.out)))); (case aL => have := LMc5.out; omega); intro v191 w7 ho hb hg hat; rw [← Ny190.out] at ho; have n0_ := Aside0.mk (Kd.R_after (ok := (fun _ => True)) (by (with_reducible repeat (first | apply Kd.R_alloc | apply Kd.R_drewN | apply Kd.R_drew)); exact HO189.out) hg hat); have n1_ := Aside0.mk (hb); have n2_ := Aside0.mk (ho); clear HO189; clear HB; clear HO_3; have HO189 := n0_; have HB := n1_; have HO192 := n2_; clear n0_ n1_ n2_; clear ho hb hg hat))
            go_roundg k1
            case measure => have := HK1.out; omega
            case rel => exact ⟨(y190), (wrap64 (x4_1 + 1)), (by first | rfl | (simp; done) | (simp [*]; done)), H', ⟨by have := HK1.out; omega⟩, ⟨by (with_reducible repeat (first | apply Kd.R_alloc | apply Kd.R_drewN | apply Kd.R_drew)); exact Kd.R_mono HO192.out (fun _ hk => trivial)⟩, ⟨by repeat (first | (with_reducible first | exact HB.out | apply below_alloc | apply pw_below_drewN | apply below_drew1) | exact HB.out)⟩⟩
          · rw [if_neg c5] at H
            exact absurd H (by simp)
        · rw [if_neg c3] at H
          exact absurd H (by simp)
      · rw [if_neg c2] at H
        have c2b0 : decide (x4_1 < (l0.length : Int)) = false := decide_eq_false c2
        clear c2
        obtain rfl := Option.some.inj H
        go_wp2
        go_ret
        exact ⟨_, by first | rfl | (simp [errW_none, errW_some] <;> rfl) | (simp [*, errW_none, errW_some] <;> rfl), by (with_reducible repeat (first | apply Kd.R_alloc | apply Kd.R_drewN | apply Kd.R_drew)); exact HO_3.out, by repeat (first | (with_reducible first | exact HB.out | apply below_alloc | apply pw_below_drewN | apply below_drew1) | exact HB.out)⟩

/-! ### phaetonlaw01_BitsTells: function 3 -/
def phaetonlaw01_BitsTells.j0 : Nat → List Int → Int → Int → List Int → Bool → Bool → Option (Bool)
  | 0, _, _, _, _, _, _ => none
  | k + 1, x0, x1, x2, x3, x9, x30 => if x30 = true then (if x9 = true then (some true) else (none)) else ((bits_Put.f x1 x2).bind fun bt194 => ((phaetonref01_Put.f k x1 x2).bind fun bt198 => ((bits_Get.f k x0).bind fun bt202 => ((phaetonref01_Get.f k x0).bind fun bt204 => ((bits_Join.f k x0).bind fun bt206 => ((phaetonref01_Join.f k x0).bind fun bt210 => (if x9 = true then ((bits_Right.f k x0).bind fun t214 => ((phaetonref01_Right.f k x0).bind fun t215 => (if (t214 == t215) = true then ((phaetonref01_Same.f k bt194.1 bt198.1).bind fun t216 => (if t216 = true then (if (bt194.2 == bt198.2) = true then (if bt202.1 = bt204.1 then (if (bt202.2 == bt204.2) = true then ((phaetonref01_SameBytes.f bt206.1 bt210.1).bind fun t217 => (if t217 = true then (if (bt206.2 == bt210.2) = true then ((bits_Spread.f x3).bind fun t218 => ((phaetonref01_Spread.f k x3).bind fun t221 => ((phaetonref01_Same.f k t218 t221).bind fun t224 => (if t224 = true then (some true) else (none))))) else (none)) else (none))) else (none)) else (none)) else (none)) else (none))) else (none)))) else (none))))))))
def phaetonlaw01_BitsTells.f (k : Nat) (l0 : List Int) (a1 : Int) (a2 : Int) (l3 : List Int) : Option (Bool) := (phaetonlaw01_head.f k).bind fun t193 => (if (l0.length : Int) > 2000 then (phaetonlaw01_BitsTells.j0 k l0 a1 a2 l3 t193 true) else (phaetonlaw01_BitsTells.j0 k l0 a1 a2 l3 t193 (decide ((l3.length : Int) > 500))))
theorem phaetonlaw01_BitsTells.mono_l : ∀ k, (∀ y0 y1 y2 y3 y4 y5, LeO (phaetonlaw01_BitsTells.j0 k y0 y1 y2 y3 y4 y5) (phaetonlaw01_BitsTells.j0 (k + 1) y0 y1 y2 y3 y4 y5))
  | 0 => fun _ _ _ _ _ _ r h => by simp [phaetonlaw01_BitsTells.j0] at h
  | k + 1 => by
    have ih0 := phaetonlaw01_BitsTells.mono_l k
    · intro y0 y1 y2 y3 y4 y5
      unfold phaetonlaw01_BitsTells.j0
      repeat' first
      | (with_reducible exact ih0 _ _ _ _ _ _)
      | (with_reducible exact bits_Get.mono _ _)
      | (with_reducible exact bits_Join.mono _ _)
      | (with_reducible exact bits_Right.mono _ _)
      | (with_reducible exact phaetonlaw01_head.mono _)
      | (with_reducible exact phaetonref01_Get.mono _ _)
      | (with_reducible exact phaetonref01_Join.mono _ _)
      | (with_reducible exact phaetonref01_Put.mono _ _ _)
      | (with_reducible exact phaetonref01_Right.mono _ _)
      | (with_reducible exact phaetonref01_Same.mono _ _ _)
      | (with_reducible exact phaetonref01_Spread.mono _ _)
      | (with_reducible exact LeO.refl _)
      | (with_reducible exact LeO.none _)
      | (with_reducible refine LeO.ite ?_ ?_)
      | (with_reducible refine LeO.bind ?_ (fun _ => ?_))
      | exact ih0 _ _ _ _ _ _
      | exact bits_Get.mono _ _
      | exact bits_Join.mono _ _
      | exact bits_Right.mono _ _
      | exact phaetonlaw01_head.mono _
      | exact phaetonref01_Get.mono _ _
      | exact phaetonref01_Join.mono _ _
      | exact phaetonref01_Put.mono _ _ _
      | exact phaetonref01_Right.mono _ _
      | exact phaetonref01_Same.mono _ _ _
      | exact phaetonref01_Spread.mono _ _
      | exact LeO.none _
      | refine LeO.ite ?_ ?_
      | refine LeO.bind ?_ (fun _ => ?_)
theorem phaetonlaw01_BitsTells.mono : ∀ a0 a1 a2 a3 k, LeO (phaetonlaw01_BitsTells.f k a0 a1 a2 a3) (phaetonlaw01_BitsTells.f (k + 1) a0 a1 a2 a3) := by
  intro a0 a1 a2 a3 k
  have ih0 := phaetonlaw01_BitsTells.mono_l k
  unfold phaetonlaw01_BitsTells.f
  repeat' first
      | (with_reducible exact ih0 _ _ _ _ _ _)
      | (with_reducible exact bits_Get.mono _ _)
      | (with_reducible exact bits_Join.mono _ _)
      | (with_reducible exact bits_Right.mono _ _)
      | (with_reducible exact phaetonlaw01_head.mono _)
      | (with_reducible exact phaetonref01_Get.mono _ _)
      | (with_reducible exact phaetonref01_Join.mono _ _)
      | (with_reducible exact phaetonref01_Put.mono _ _ _)
      | (with_reducible exact phaetonref01_Right.mono _ _)
      | (with_reducible exact phaetonref01_Same.mono _ _ _)
      | (with_reducible exact phaetonref01_Spread.mono _ _)
      | (with_reducible exact LeO.refl _)
      | (with_reducible exact LeO.none _)
      | (with_reducible refine LeO.ite ?_ ?_)
      | (with_reducible refine LeO.bind ?_ (fun _ => ?_))
      | exact ih0 _ _ _ _ _ _
      | exact bits_Get.mono _ _
      | exact bits_Join.mono _ _
      | exact bits_Right.mono _ _
      | exact phaetonlaw01_head.mono _
      | exact phaetonref01_Get.mono _ _
      | exact phaetonref01_Join.mono _ _
      | exact phaetonref01_Put.mono _ _ _
      | exact phaetonref01_Right.mono _ _
      | exact phaetonref01_Same.mono _ _ _
      | exact phaetonref01_Spread.mono _ _
      | exact LeO.none _
      | refine LeO.ite ?_ ?_
      | refine LeO.bind ?_ (fun _ => ?_)
set_option maxHeartbeats 8000000 in
set_option maxRecDepth 100000 in
theorem phaetonlaw01_BitsTells.calls (k : Nat) (A0 : Option Addr) (c0 : Nat) (l0 : List Int) (a1 : Int) (a2 : Int) (A3 : Option Addr) (c3 : Nat) (l3 : List Int) (r : Bool) (w : World) (hr0 : Kd.C (Kd.int .i64) w A0 l0.length l0) (hc0 : l0.length ≤ c0) (hr3 : Kd.C (Kd.int .u8) w A3 l3.length l3) (hc3 : l3.length ≤ c3) (h : phaetonlaw01_BitsTells.f k l0 a1 a2 l3 = some r) :
    Calls Try.prog 3 #[.slice A0 l0.length c0, .int .i64 a1, .int .i64 a2, .slice A3 l3.length c3] w fun e w' => e = .returned (.bool r) ∧ Below w.heap.size w w' := by
  have HR0 := Aside0.mk hr0
  have HC0 := Aside0.mk hc0
  clear hr0 hc0
  have HR3 := Aside0.mk hr3
  have HC3 := Aside0.mk hc3
  clear hr3 hc3
  have HB := Aside0.mk (Below.refl w.heap.size w)
  have H : ((phaetonlaw01_head.f k).bind fun t193 => (if (l0.length : Int) > 2000 then (phaetonlaw01_BitsTells.j0 k l0 a1 a2 l3 t193 true) else (phaetonlaw01_BitsTells.j0 k l0 a1 a2 l3 t193 (decide ((l3.length : Int) > 500))))) = some r := h
  clear h
  replace H := Option.bind_eq_some_iff.mp H
  obtain ⟨t193, A50, H⟩ := H
  replace H : (if (l0.length : Int) > 2000 then (phaetonlaw01_BitsTells.j0 k l0 a1 a2 l3 t193 true) else (phaetonlaw01_BitsTells.j0 k l0 a1 a2 l3 t193 (decide ((l3.length : Int) > 500)))) = some r := H
  have A5 := Aside0.mk A50
  clear A50
  have HC6 := Aside0.mk H
  clear H
  go_enter Try.func3, Try.ntmps3
  go_upto_region 2 with (first | ((with_reducible refine gate_callee (f := 10) rfl ?_); refine goesL_ (some 22) rfl rfl Try.func10 (by kernel_rfl) rfl #[] rfl (by (try simp only [List.map_toArray, List.map_cons, List.map_nil]); first | done | rfl | (simp only [List.length_drop, List.length_take]; rfl)) ?_; (with_reducible refine (phaetonlaw01_head.calls k  t193 _ A5.out).mono ?_); rintro e w7 ⟨rfl, hb⟩; refine ⟨_, rfl, ?_⟩; have n0_ := Aside0.mk (below_step (by repeat (first | (with_reducible first | exact HB.out | apply below_alloc | apply pw_below_drewN | apply below_drew1) | exact HB.out)) hb); clear HB; have HB := n0_; clear n0_; (try clear hb); (try clear hb2); (try clear hk); (try clear hi)))
  (try simp only [Act.put, List.setIfInBounds_toArray, List.set_cons_zero, List.set_cons_succ])
  go_cut [30] (fun v30 wc => ∃ (kq : Nat) (x30_5 : Bool), v30 = .bool x30_5 ∧ Aside0 (phaetonlaw01_BitsTells.j0 kq l0 a1 a2 l3 t193 x30_5 = some r) ∧ Aside0 (kq ≤ k) ∧ Aside0 (Below w.heap.size w wc))
  case first =>
    have H := HC6.out
    clear HC6
    by_cases c8 : (l0.length : Int) > 2000
    · rw [if_pos c8] at H
      have c8b0 : decide (2000 < (l0.length : Int)) = true := decide_eq_true c8
      have c8b1 : decide (2000 < l0.length) = true := decide_eq_true (by omega)
      clear c8
      (first | rw [c8b0] | (simp only [i64_w, i32_w]; rw [c8b0]) | skip)
      have H' := Aside0.mk H
      clear H
      go_wp2
      go_meet
      case rel => exact ⟨_, (true), (by first | rfl | (simp; done) | (simp [*]; done)), H', ⟨by first | omega | exact Nat.le_refl _⟩, ⟨by repeat (first | (with_reducible first | exact HB.out | apply below_alloc | apply pw_below_drewN | apply below_drew1) | exact HB.out)⟩⟩
    · rw [if_neg c8] at H
      have c8b0 : decide (2000 < (l0.length : Int)) = false := decide_eq_false c8
      have c8b1 : decide (2000 < l0.length) = false := decide_eq_false (by omega)
      clear c8
      (first | rw [c8b0] | (simp only [i64_w, i32_w]; rw [c8b0]) | skip)
      have H' := Aside0.mk H
      clear H
      go_wp2
      go_meet
      case rel => exact ⟨_, (decide ((l3.length : Int) > 500)), (by first | rfl | (simp; done) | (simp [*]; done)), H', ⟨by first | omega | exact Nat.le_refl _⟩, ⟨by repeat (first | (with_reducible first | exact HB.out | apply below_alloc | apply pw_below_drewN | apply below_drew1) | exact HB.out)⟩⟩
  case rest =>
    clear HC6
    try clear c1
    try clear p2
    try clear c3
    try clear c8
    try clear c8b0
    try clear c8b1
    obtain ⟨kq, x30_5, rfl, HA, HJ5, HB⟩ := hcut
    cases kq with
    | zero => exact absurd HA.out (by simp [phaetonlaw01_BitsTells.j0])
    | succ kj5 =>
      have H := HA.out
      clear HA
      simp only [phaetonlaw01_BitsTells.j0] at H
      by_cases c9 : x30_5 = true
      · subst c9
        have H1 : (if t193 = true then (some true) else (none)) = some r := by rw [if_pos rfl] at H; exact H
        clear H
        have H := H1
        clear H1
        by_cases c10 : t193 = true
        · subst c10
          have H1 : (some true) = some r := by rw [if_pos rfl] at H; exact H
          clear H
          have H := H1
          clear H1
          obtain rfl := Option.some.inj H
          go_wp2
          go_ret
          exact ⟨by first | rfl | (simp [errW_none, errW_some] <;> rfl) | (simp [*, errW_none, errW_some] <;> rfl), by repeat (first | (with_reducible first | exact HB.out | apply below_alloc | apply pw_below_drewN | apply below_drew1) | exact HB.out)⟩
        · replace c10 := Bool.eq_false_iff.mpr c10
          subst c10
          have H1 : (none) = some r := by rw [if_neg (show ¬ (false = true) by decide)] at H; exact H
          clear H
          have H := H1
          clear H1
          exact absurd H (by simp)
      · replace c9 := Bool.eq_false_iff.mpr c9
        subst c9
        have H1 : ((bits_Put.f a1 a2).bind fun bt194 => ((phaetonref01_Put.f kj5 a1 a2).bind fun bt198 => ((bits_Get.f kj5 l0).bind fun bt202 => ((phaetonref01_Get.f kj5 l0).bind fun bt204 => ((bits_Join.f kj5 l0).bind fun bt206 => ((phaetonref01_Join.f kj5 l0).bind fun bt210 => (if t193 = true then ((bits_Right.f kj5 l0).bind fun t214 => ((phaetonref01_Right.f kj5 l0).bind fun t215 => (if (t214 == t215) = true then ((phaetonref01_Same.f kj5 bt194.1 bt198.1).bind fun t216 => (if t216 = true then (if (bt194.2 == bt198.2) = true then (if bt202.1 = bt204.1 then (if (bt202.2 == bt204.2) = true then ((phaetonref01_SameBytes.f bt206.1 bt210.1).bind fun t217 => (if t217 = true then (if (bt206.2 == bt210.2) = true then ((bits_Spread.f l3).bind fun t218 => ((phaetonref01_Spread.f kj5 l3).bind fun t221 => ((phaetonref01_Same.f kj5 t218 t221).bind fun t224 => (if t224 = true then (some true) else (none))))) else (none)) else (none))) else (none)) else (none)) else (none)) else (none))) else (none)))) else (none)))))))) = some r := by rw [if_neg (show ¬ (false = true) by decide)] at H; exact H
        clear H
        have H := H1
        clear H1
        replace H := Option.bind_eq_some_iff.mp H
        obtain ⟨⟨t194, t195⟩, A110, H⟩ := H
        replace H : ((phaetonref01_Put.f kj5 a1 a2).bind fun bt198 => ((bits_Get.f kj5 l0).bind fun bt202 => ((phaetonref01_Get.f kj5 l0).bind fun bt204 => ((bits_Join.f kj5 l0).bind fun bt206 => ((phaetonref01_Join.f kj5 l0).bind fun bt210 => (if t193 = true then ((bits_Right.f kj5 l0).bind fun t214 => ((phaetonref01_Right.f kj5 l0).bind fun t215 => (if (t214 == t215) = true then ((phaetonref01_Same.f kj5 t194 bt198.1).bind fun t216 => (if t216 = true then (if (t195 == bt198.2) = true then (if bt202.1 = bt204.1 then (if (bt202.2 == bt204.2) = true then ((phaetonref01_SameBytes.f bt206.1 bt210.1).bind fun t217 => (if t217 = true then (if (bt206.2 == bt210.2) = true then ((bits_Spread.f l3).bind fun t218 => ((phaetonref01_Spread.f kj5 l3).bind fun t221 => ((phaetonref01_Same.f kj5 t218 t221).bind fun t224 => (if t224 = true then (some true) else (none))))) else (none)) else (none))) else (none)) else (none)) else (none)) else (none))) else (none)))) else (none))))))) = some r := H
        have A11 := Aside0.mk A110
        clear A110
        replace H := Option.bind_eq_some_iff.mp H
        obtain ⟨⟨t198, t199⟩, A120, H⟩ := H
        replace H : ((bits_Get.f kj5 l0).bind fun bt202 => ((phaetonref01_Get.f kj5 l0).bind fun bt204 => ((bits_Join.f kj5 l0).bind fun bt206 => ((phaetonref01_Join.f kj5 l0).bind fun bt210 => (if t193 = true then ((bits_Right.f kj5 l0).bind fun t214 => ((phaetonref01_Right.f kj5 l0).bind fun t215 => (if (t214 == t215) = true then ((phaetonref01_Same.f kj5 t194 t198).bind fun t216 => (if t216 = true then (if (t195 == t199) = true then (if bt202.1 = bt204.1 then (if (bt202.2 == bt204.2) = true then ((phaetonref01_SameBytes.f bt206.1 bt210.1).bind fun t217 => (if t217 = true then (if (bt206.2 == bt210.2) = true then ((bits_Spread.f l3).bind fun t218 => ((phaetonref01_Spread.f kj5 l3).bind fun t221 => ((phaetonref01_Same.f kj5 t218 t221).bind fun t224 => (if t224 = true then (some true) else (none))))) else (none)) else (none))) else (none)) else (none)) else (none)) else (none))) else (none)))) else (none)))))) = some r := H
        have A12 := Aside0.mk A120
        clear A120
        replace H := Option.bind_eq_some_iff.mp H
        obtain ⟨⟨t202, t203⟩, A130, H⟩ := H
        replace H : ((phaetonref01_Get.f kj5 l0).bind fun bt204 => ((bits_Join.f kj5 l0).bind fun bt206 => ((phaetonref01_Join.f kj5 l0).bind fun bt210 => (if t193 = true then ((bits_Right.f kj5 l0).bind fun t214 => ((phaetonref01_Right.f kj5 l0).bind fun t215 => (if (t214 == t215) = true then ((phaetonref01_Same.f kj5 t194 t198).bind fun t216 => (if t216 = true then (if (t195 == t199) = true then (if t202 = bt204.1 then (if (t203 == bt204.2) = true then ((phaetonref01_SameBytes.f bt206.1 bt210.1).bind fun t217 => (if t217 = true then (if (bt206.2 == bt210.2) = true then ((bits_Spread.f l3).bind fun t218 => ((phaetonref01_Spread.f kj5 l3).bind fun t221 => ((phaetonref01_Same.f kj5 t218 t221).bind fun t224 => (if t224 = true then (some true) else (none))))) else (none)) else (none))) else (none)) else (none)) else (none)) else (none))) else (none)))) else (none))))) = some r := H
        have A13 := Aside0.mk A130
        clear A130
        replace H := Option.bind_eq_some_iff.mp H
        obtain ⟨⟨t204, t205⟩, A140, H⟩ := H
        replace H : ((bits_Join.f kj5 l0).bind fun bt206 => ((phaetonref01_Join.f kj5 l0).bind fun bt210 => (if t193 = true then ((bits_Right.f kj5 l0).bind fun t214 => ((phaetonref01_Right.f kj5 l0).bind fun t215 => (if (t214 == t215) = true then ((phaetonref01_Same.f kj5 t194 t198).bind fun t216 => (if t216 = true then (if (t195 == t199) = true then (if t202 = t204 then (if (t203 == t205) = true then ((phaetonref01_SameBytes.f bt206.1 bt210.1).bind fun t217 => (if t217 = true then (if (bt206.2 == bt210.2) = true then ((bits_Spread.f l3).bind fun t218 => ((phaetonref01_Spread.f kj5 l3).bind fun t221 => ((phaetonref01_Same.f kj5 t218 t221).bind fun t224 => (if t224 = true then (some true) else (none))))) else (none)) else (none))) else (none)) else (none)) else (none)) else (none))) else (none)))) else (none)))) = some r := H
        have A14 := Aside0.mk A140
        clear A140
        replace H := Option.bind_eq_some_iff.mp H
        obtain ⟨⟨t206, t207⟩, A150, H⟩ := H
        replace H : ((phaetonref01_Join.f kj5 l0).bind fun bt210 => (if t193 = true then ((bits_Right.f kj5 l0).bind fun t214 => ((phaetonref01_Right.f kj5 l0).bind fun t215 => (if (t214 == t215) = true then ((phaetonref01_Same.f kj5 t194 t198).bind fun t216 => (if t216 = true then (if (t195 == t199) = true then (if t202 = t204 then (if (t203 == t205) = true then ((phaetonref01_SameBytes.f t206 bt210.1).bind fun t217 => (if t217 = true then (if (t207 == bt210.2) = true then ((bits_Spread.f l3).bind fun t218 => ((phaetonref01_Spread.f kj5 l3).bind fun t221 => ((phaetonref01_Same.f kj5 t218 t221).bind fun t224 => (if t224 = true then (some true) else (none))))) else (none)) else (none))) else (none)) else (none)) else (none)) else (none))) else (none)))) else (none))) = some r := H
        have A15 := Aside0.mk A150
        clear A150
        replace H := Option.bind_eq_some_iff.mp H
        obtain ⟨⟨t210, t211⟩, A160, H⟩ := H
        replace H : (if t193 = true then ((bits_Right.f kj5 l0).bind fun t214 => ((phaetonref01_Right.f kj5 l0).bind fun t215 => (if (t214 == t215) = true then ((phaetonref01_Same.f kj5 t194 t198).bind fun t216 => (if t216 = true then (if (t195 == t199) = true then (if t202 = t204 then (if (t203 == t205) = true then ((phaetonref01_SameBytes.f t206 t210).bind fun t217 => (if t217 = true then (if (t207 == t211) = true then ((bits_Spread.f l3).bind fun t218 => ((phaetonref01_Spread.f kj5 l3).bind fun t221 => ((phaetonref01_Same.f kj5 t218 t221).bind fun t224 => (if t224 = true then (some true) else (none))))) else (none)) else (none))) else (none)) else (none)) else (none)) else (none))) else (none)))) else (none)) = some r := H
        have A16 := Aside0.mk A160
        clear A160
        by_cases c17 : t193 = true
        · subst c17
          have H1 : ((bits_Right.f kj5 l0).bind fun t214 => ((phaetonref01_Right.f kj5 l0).bind fun t215 => (if (t214 == t215) = true then ((phaetonref01_Same.f kj5 t194 t198).bind fun t216 => (if t216 = true then (if (t195 == t199) = true then (if t202 = t204 then (if (t203 == t205) = true then ((phaetonref01_SameBytes.f t206 t210).bind fun t217 => (if t217 = true then (if (t207 == t211) = true then ((bits_Spread.f l3).bind fun t218 => ((phaetonref01_Spread.f kj5 l3).bind fun t221 => ((phaetonref01_Same.f kj5 t218 t221).bind fun t224 => (if t224 = true then (some true) else (none))))) else (none)) else (none))) else (none)) else (none)) else (none)) else (none))) else (none)))) = some r := by rw [if_pos rfl] at H; exact H
          clear H
          have H := H1
          clear H1
          replace H := Option.bind_eq_some_iff.mp H
          obtain ⟨t214, A180, H⟩ := H
          replace H : ((phaetonref01_Right.f kj5 l0).bind fun t215 => (if (t214 == t215) = true then ((phaetonref01_Same.f kj5 t194 t198).bind fun t216 => (if t216 = true then (if (t195 == t199) = true then (if t202 = t204 then (if (t203 == t205) = true then ((phaetonref01_SameBytes.f t206 t210).bind fun t217 => (if t217 = true then (if (t207 == t211) = true then ((bits_Spread.f l3).bind fun t218 => ((phaetonref01_Spread.f kj5 l3).bind fun t221 => ((phaetonref01_Same.f kj5 t218 t221).bind fun t224 => (if t224 = true then (some true) else (none))))) else (none)) else (none))) else (none)) else (none)) else (none)) else (none))) else (none))) = some r := H
          have A18 := Aside0.mk A180
          clear A180
          replace H := Option.bind_eq_some_iff.mp H
          obtain ⟨t215, A190, H⟩ := H
          replace H : (if (t214 == t215) = true then ((phaetonref01_Same.f kj5 t194 t198).bind fun t216 => (if t216 = true then (if (t195 == t199) = true then (if t202 = t204 then (if (t203 == t205) = true then ((phaetonref01_SameBytes.f t206 t210).bind fun t217 => (if t217 = true then (if (t207 == t211) = true then ((bits_Spread.f l3).bind fun t218 => ((phaetonref01_Spread.f kj5 l3).bind fun t221 => ((phaetonref01_Same.f kj5 t218 t221).bind fun t224 => (if t224 = true then (some true) else (none))))) else (none)) else (none))) else (none)) else (none)) else (none)) else (none))) else (none)) = some r := H
          have A19 := Aside0.mk A190
          clear A190
          by_cases c20 : (t214 == t215) = true
          · rw [if_pos c20] at H
            have c20b0 : (t214 == t215) = true := c20
            (try (have c20b1 : decide (t214 = t215) = true := by simpa using c20))
            (try (have c20b2 : (t214 == t215) = true := by simpa using c20))
            clear c20
            replace H := Option.bind_eq_some_iff.mp H
            obtain ⟨t216, A210, H⟩ := H
            replace H : (if t216 = true then (if (t195 == t199) = true then (if t202 = t204 then (if (t203 == t205) = true then ((phaetonref01_SameBytes.f t206 t210).bind fun t217 => (if t217 = true then (if (t207 == t211) = true then ((bits_Spread.f l3).bind fun t218 => ((phaetonref01_Spread.f kj5 l3).bind fun t221 => ((phaetonref01_Same.f kj5 t218 t221).bind fun t224 => (if t224 = true then (some true) else (none))))) else (none)) else (none))) else (none)) else (none)) else (none)) else (none)) = some r := H
            have A21 := Aside0.mk A210
            clear A210
            by_cases c22 : t216 = true
            · subst c22
              have H1 : (if (t195 == t199) = true then (if t202 = t204 then (if (t203 == t205) = true then ((phaetonref01_SameBytes.f t206 t210).bind fun t217 => (if t217 = true then (if (t207 == t211) = true then ((bits_Spread.f l3).bind fun t218 => ((phaetonref01_Spread.f kj5 l3).bind fun t221 => ((phaetonref01_Same.f kj5 t218 t221).bind fun t224 => (if t224 = true then (some true) else (none))))) else (none)) else (none))) else (none)) else (none)) else (none)) = some r := by rw [if_pos rfl] at H; exact H
              clear H
              have H := H1
              clear H1
              by_cases c23 : (t195 == t199) = true
              · rw [if_pos c23] at H
                have c23b0 : (t195 == t199) = true := c23
                (try (have c23b1 : decide (t195 = t199) = true := by simpa using c23))
                (try (have c23b2 : (t195 == t199) = true := by simpa using c23))
                clear c23
                by_cases c24 : t202 = t204
                · rw [if_pos c24] at H
                  have c24b0 : (t202 == t204) = true := beq_iff_eq.mpr c24
                  have c24b1 : (t202 != t204) = false := bne_eq_false_iff_eq.mpr c24
                  clear c24
                  by_cases c25 : (t203 == t205) = true
                  · rw [if_pos c25] at H
                    have c25b0 : (t203 == t205) = true := c25
                    (try (have c25b1 : decide (t203 = t205) = true := by simpa using c25))
                    (try (have c25b2 : (t203 == t205) = true := by simpa using c25))
                    clear c25
                    replace H := Option.bind_eq_some_iff.mp H
                    obtain ⟨t217, A260, H⟩ := H
                    replace H : (if t217 = true then (if (t207 == t211) = true then ((bits_Spread.f l3).bind fun t218 => ((phaetonref01_Spread.f kj5 l3).bind fun t221 => ((phaetonref01_Same.f kj5 t218 t221).bind fun t224 => (if t224 = true then (some true) else (none))))) else (none)) else (none)) = some r := H
                    have A26 := Aside0.mk A260
                    clear A260
                    by_cases c27 : t217 = true
                    · subst c27
                      have H1 : (if (t207 == t211) = true then ((bits_Spread.f l3).bind fun t218 => ((phaetonref01_Spread.f kj5 l3).bind fun t221 => ((phaetonref01_Same.f kj5 t218 t221).bind fun t224 => (if t224 = true then (some true) else (none))))) else (none)) = some r := by rw [if_pos rfl] at H; exact H
                      clear H
                      have H := H1
                      clear H1
                      by_cases c28 : (t207 == t211) = true
                      · rw [if_pos c28] at H
                        have c28b0 : (t207 == t211) = true := c28
                        (try (have c28b1 : decide (t207 = t211) = true := by simpa using c28))
                        (try (have c28b2 : (t207 == t211) = true := by simpa using c28))
                        clear c28
                        replace H := Option.bind_eq_some_iff.mp H
                        obtain ⟨t218, A290, H⟩ := H
                        replace H : ((phaetonref01_Spread.f kj5 l3).bind fun t221 => ((phaetonref01_Same.f kj5 t218 t221).bind fun t224 => (if t224 = true then (some true) else (none)))) = some r := H
                        have A29 := Aside0.mk A290
                        clear A290
                        replace H := Option.bind_eq_some_iff.mp H
                        obtain ⟨t221, A300, H⟩ := H
                        replace H : ((phaetonref01_Same.f kj5 t218 t221).bind fun t224 => (if t224 = true then (some true) else (none))) = some r := H
                        have A30 := Aside0.mk A300
                        clear A300
                        replace H := Option.bind_eq_some_iff.mp H
                        obtain ⟨t224, A310, H⟩ := H
                        replace H : (if t224 = true then (some true) else (none)) = some r := H
                        have A31 := Aside0.mk A310
                        clear A310
                        by_cases c32 : t224 = true
                        · subst c32
                          have H1 : (some true) = some r := by rw [if_pos rfl] at H; exact H
                          clear H
                          have H := H1
                          clear H1
                          obtain rfl := Option.some.inj H
                          go_wp2_with (first | ((with_reducible refine gate_callee (f := 11) rfl ?_); refine goesL_ (some 35) rfl rfl Try.func11 (by kernel_rfl) rfl #[.int .i64 a1, .int .i64 a2] rfl (by (try simp only [List.map_toArray, List.map_cons, List.map_nil]); first | done | rfl | (simp only [List.length_drop, List.length_take]; rfl)) ?_; (with_reducible refine (bits_Put.calls a1 a2 t194 t195 _ A11.out).mono ?_); rintro e w33 ⟨v196, rfl, ho0, hb⟩; refine ⟨_, rfl, ?_⟩; have n0_ := Aside0.mk (Kd.R_lower ho0 (below_size (by repeat (first | (with_reducible first | exact HB.out | apply below_alloc | apply pw_below_drewN | apply below_drew1) | exact HB.out)))); have n1_ := Aside0.mk (below_step (by repeat (first | (with_reducible first | exact HB.out | apply below_alloc | apply pw_below_drewN | apply below_drew1) | exact HB.out)) hb); clear HB; have HO197 := n0_; have HB := n1_; clear n0_ n1_; (try clear hb); (try clear hb2); (try clear hk); (try clear hi); (try clear ho0)) | ((with_reducible refine gate_callee (f := 12) rfl ?_); refine goesL_ (some 41) rfl rfl Try.func12 (by kernel_rfl) rfl #[.int .i64 a1, .int .i64 a2] rfl (by (try simp only [List.map_toArray, List.map_cons, List.map_nil]); first | done | rfl | (simp only [List.length_drop, List.length_take]; rfl)) ?_; (with_reducible refine (phaetonref01_Put.calls kj5 a1 a2 t198 t199 _ A12.out).mono ?_); rintro e w34 ⟨v200, rfl, ho0, hb⟩; refine ⟨_, rfl, ?_⟩; have n0_ := Aside0.mk (Kd.R_elder' (by (with_reducible repeat (first | apply Kd.R_alloc | apply Kd.R_drewN | apply Kd.R_drew)); exact HO197.out) (Kd.R_base ho0) hb); have n1_ := Aside0.mk (Kd.R_lower (Kd.R_new' ho0 (Kd.R_lt (by (with_reducible repeat (first | apply Kd.R_alloc | apply Kd.R_drewN | apply Kd.R_drew)); exact HO197.out))) (below_size (by repeat (first | (with_reducible first | exact HB.out | apply below_alloc | apply pw_below_drewN | apply below_drew1) | exact HB.out)))); have n2_ := Aside0.mk (below_step (by repeat (first | (with_reducible first | exact HB.out | apply below_alloc | apply pw_below_drewN | apply below_drew1) | exact HB.out)) hb); clear HO197; clear HB; have HO197 := n0_; have HO201 := n1_; have HB := n2_; clear n0_ n1_ n2_; (try clear hb); (try clear hb2); (try clear hk); (try clear hi); (try clear ho0)) | ((with_reducible refine gate_callee (f := 13) rfl ?_); refine goesL_ (some 46) rfl rfl Try.func13 (by kernel_rfl) rfl #[.slice A0 l0.length c0] rfl (by (try simp only [List.map_toArray, List.map_cons, List.map_nil]); first | done | rfl | (simp only [List.length_drop, List.length_take]; rfl)) ?_; (with_reducible refine (bits_Get.calls kj5 _ _ l0 t202 t203 _ ?side1 ?side2 A13.out).mono ?_); (case side1 => repeat (first | exact (Kd.C_below HR0.out HB.out) | (with_reducible refine Kd.C_alloc ?_ _) | (with_reducible refine Kd.C_drewN ?_ _) | (with_reducible refine Kd.C_drew ?_))); (case side2 => exact HC0.out); rintro e w' ⟨rfl, ⟨nd, rfl⟩⟩; refine ⟨_, rfl, ?_⟩) | ((with_reducible refine gate_callee (f := 14) rfl ?_); refine goesL_ (some 51) rfl rfl Try.func14 (by kernel_rfl) rfl #[.slice A0 l0.length c0] rfl (by (try simp only [List.map_toArray, List.map_cons, List.map_nil]); first | done | rfl | (simp only [List.length_drop, List.length_take]; rfl)) ?_; (with_reducible refine (phaetonref01_Get.calls kj5 _ _ l0 t204 t205 _ ?side1 ?side2 A14.out).mono ?_); (case side1 => repeat (first | exact (Kd.C_below HR0.out (by repeat (first | (with_reducible first | exact HB.out | apply below_alloc | apply pw_below_drewN | apply below_drew1) | exact HB.out))) | (with_reducible refine Kd.C_alloc ?_ _) | (with_reducible refine Kd.C_drewN ?_ _) | (with_reducible refine Kd.C_drew ?_))); (case side2 => exact HC0.out); rintro e w' ⟨rfl, ⟨nd, rfl⟩⟩; refine ⟨_, rfl, ?_⟩) | ((with_reducible refine gate_callee (f := 15) rfl ?_); refine goesL_ (some 56) rfl rfl Try.func15 (by kernel_rfl) rfl #[.slice A0 l0.length c0] rfl (by (try simp only [List.map_toArray, List.map_cons, List.map_nil]); first | done | rfl | (simp only [List.length_drop, List.length_take]; rfl)) ?_; (with_reducible refine (bits_Join.calls kj5 _ _ l0 t206 t207 _ ?side1 ?side2 A15.out).mono ?_); (case side1 => repeat (first | exact (Kd.C_below HR0.out (by repeat (first | (with_reducible first | exact HB.out | apply below_alloc | apply pw_below_drewN | apply below_drew1) | exact HB.out))) | (with_reducible refine Kd.C_alloc ?_ _) | (with_reducible refine Kd.C_drewN ?_ _) | (with_reducible refine Kd.C_drew ?_))); (case side2 => exact HC0.out); rintro e w35 ⟨v208, rfl, ho0, hb⟩; refine ⟨_, rfl, ?_⟩; have n0_ := Aside0.mk (Kd.R_below (by (with_reducible repeat (first | apply Kd.R_alloc | apply Kd.R_drewN | apply Kd.R_drew)); exact HO197.out) hb); have n1_ := Aside0.mk (Kd.R_below (by (with_reducible repeat (first | apply Kd.R_alloc | apply Kd.R_drewN | apply Kd.R_drew)); exact HO201.out) hb); have n2_ := Aside0.mk (Kd.R_lower ho0 (below_size (by repeat (first | (with_reducible first | exact HB.out | apply below_alloc | apply pw_below_drewN | apply below_drew1) | exact HB.out)))); have n3_ := Aside0.mk (below_step (by repeat (first | (with_reducible first | exact HB.out | apply below_alloc | apply pw_below_drewN | apply below_drew1) | exact HB.out)) hb); clear HO197; clear HO201; clear HB; have HO197 := n0_; have HO201 := n1_; have HO209 := n2_; have HB := n3_; clear n0_ n1_ n2_ n3_; (try clear hb); (try clear hb2); (try clear hk); (try clear hi); (try clear ho0)) | ((with_reducible refine gate_callee (f := 16) rfl ?_); refine goesL_ (some 61) rfl rfl Try.func16 (by kernel_rfl) rfl #[.slice A0 l0.length c0] rfl (by (try simp only [List.map_toArray, List.map_cons, List.map_nil]); first | done | rfl | (simp only [List.length_drop, List.length_take]; rfl)) ?_; (with_reducible refine (phaetonref01_Join.calls kj5 _ _ l0 t210 t211 _ ?side1 ?side2 A16.out).mono ?_); (case side1 => repeat (first | exact (Kd.C_below HR0.out HB.out) | (with_reducible refine Kd.C_alloc ?_ _) | (with_reducible refine Kd.C_drewN ?_ _) | (with_reducible refine Kd.C_drew ?_))); (case side2 => exact HC0.out); rintro e w36 ⟨v212, rfl, ho0, hb⟩; refine ⟨_, rfl, ?_⟩; have n0_ := Aside0.mk (Kd.R_below (by (with_reducible repeat (first | apply Kd.R_alloc | apply Kd.R_drewN | apply Kd.R_drew)); exact HO197.out) hb); have n1_ := Aside0.mk (Kd.R_below (by (with_reducible repeat (first | apply Kd.R_alloc | apply Kd.R_drewN | apply Kd.R_drew)); exact HO201.out) hb); have n2_ := Aside0.mk (Kd.R_elder' (by (with_reducible repeat (first | apply Kd.R_alloc | apply Kd.R_drewN | apply Kd.R_drew)); exact HO209.out) (Kd.R_base ho0) hb); have n3_ := Aside0.mk (Kd.R_lower (Kd.R_new' ho0 (Kd.R_lt (by (with_reducible repeat (first | apply Kd.R_alloc | apply Kd.R_drewN | apply Kd.R_drew)); exact HO209.out))) (below_size (by repeat (first | (with_reducible first | exact HB.out | apply below_alloc | apply pw_below_drewN | apply below_drew1) | exact HB.out)))); have n4_ := Aside0.mk (below_step (by repeat (first | (with_reducible first | exact HB.out | apply below_alloc | apply pw_below_drewN | apply below_drew1) | exact HB.out)) hb); clear HO197; clear HO201; clear HO209; clear HB; have HO197 := n0_; have HO201 := n1_; have HO209 := n2_; have HO213 := n3_; have HB := n4_; clear n0_ n1_ n2_ n3_ n4_; (try clear hb); (try clear hb2); (try clear hk); (try clear hi); (try clear ho0)) | (go_at_call 17; (with_reducible refine (bits_Right.calls kj5 _ _ l0 t214 _ ?side1 ?side2 A18.out).mono ?_); (case side1 => repeat (first | exact (Kd.C_below HR0.out HB.out) | (with_reducible refine Kd.C_alloc ?_ _) | (with_reducible refine Kd.C_drewN ?_ _) | (with_reducible refine Kd.C_drew ?_))); (case side2 => exact HC0.out); rintro e w' ⟨rfl, ⟨nd, rfl⟩⟩) | (go_at_call 18; (with_reducible refine (phaetonref01_Right.calls kj5 _ _ l0 t215 _ ?side1 ?side2 A19.out).mono ?_); (case side1 => repeat (first | exact (Kd.C_below HR0.out (by repeat (first | (with_reducible first | exact HB.out | apply below_alloc | apply pw_below_drewN | apply below_drew1) | exact HB.out))) | (with_reducible refine Kd.C_alloc ?_ _) | (with_reducible refine Kd.C_drewN ?_ _) | (with_reducible refine Kd.C_drew ?_))); (case side2 => exact HC0.out); rintro e w' ⟨rfl, ⟨nd, rfl⟩⟩; obtain ⟨Ao37, co37, eo37⟩ := Kd.R_slice HO197.out; subst eo37; obtain ⟨Ao38, co38, eo38⟩ := Kd.R_slice HO201.out; subst eo38) | (go_at_call 19; (with_reducible refine (phaetonref01_Same.calls kj5 _ _ t194 _ _ t198 true _ ?side1 ?side2 ?side3 ?side4 A21.out).mono ?_); (case side1 => repeat (first | exact (Kd.R_reads' HO197.out).2.2 | (with_reducible refine Kd.C_alloc ?_ _) | (with_reducible refine Kd.C_drewN ?_ _) | (with_reducible refine Kd.C_drew ?_))); (case side2 => exact (Kd.R_reads' HO197.out).2.1); (case side3 => repeat (first | exact (Kd.R_reads' HO201.out).2.2 | (with_reducible refine Kd.C_alloc ?_ _) | (with_reducible refine Kd.C_drewN ?_ _) | (with_reducible refine Kd.C_drew ?_))); (case side4 => exact (Kd.R_reads' HO201.out).2.1); rintro e w' ⟨rfl, ⟨nd, rfl⟩⟩; obtain ⟨Ao39, co39, eo39⟩ := Kd.R_slice HO209.out; subst eo39; obtain ⟨Ao40, co40, eo40⟩ := Kd.R_slice HO213.out; subst eo40) | (go_at_call 20; (with_reducible refine (phaetonref01_SameBytes.calls _ _ t206 _ _ t210 true _ ?side1 ?side2 ?side3 ?side4 A26.out).mono ?_); (case side1 => repeat (first | exact (Kd.R_reads' HO209.out).2.2 | (with_reducible refine Kd.C_alloc ?_ _) | (with_reducible refine Kd.C_drewN ?_ _) | (with_reducible refine Kd.C_drew ?_))); (case side2 => exact (Kd.R_reads' HO209.out).2.1); (case side3 => repeat (first | exact (Kd.R_reads' HO213.out).2.2 | (with_reducible refine Kd.C_alloc ?_ _) | (with_reducible refine Kd.C_drewN ?_ _) | (with_reducible refine Kd.C_drew ?_))); (case side4 => exact (Kd.R_reads' HO213.out).2.1); rintro e w' ⟨rfl, ⟨nd, rfl⟩⟩) | (go_at_call 21; (with_reducible refine (bits_Spread.calls _ _ l3 t218 _ ?side1 ?side2 A29.out).mono ?_); (case side1 => repeat (first | exact (Kd.C_below HR3.out (by repeat (first | (with_reducible first | exact HB.out | apply below_alloc | apply pw_below_drewN | apply below_drew1) | exact HB.out))) | (with_reducible refine Kd.C_alloc ?_ _) | (with_reducible refine Kd.C_drewN ?_ _) | (with_reducible refine Kd.C_drew ?_))); (case side2 => exact HC3.out); rintro e w41 ⟨v219, rfl, ho0, hb⟩; have n0_ := Aside0.mk (Kd.R_elder' (by (with_reducible repeat (first | apply Kd.R_alloc | apply Kd.R_drewN | apply Kd.R_drew)); exact HO197.out) (Kd.R_base ho0) hb); have n1_ := Aside0.mk (Kd.R_elder' (by (with_reducible repeat (first | apply Kd.R_alloc | apply Kd.R_drewN | apply Kd.R_drew)); exact HO201.out) (Kd.R_base ho0) hb); have n2_ := Aside0.mk (Kd.R_below (by (with_reducible repeat (first | apply Kd.R_alloc | apply Kd.R_drewN | apply Kd.R_drew)); exact HO209.out) hb); have n3_ := Aside0.mk (Kd.R_below (by (with_reducible repeat (first | apply Kd.R_alloc | apply Kd.R_drewN | apply Kd.R_drew)); exact HO213.out) hb); have n4_ := Aside0.mk (Kd.R_lower (Kd.R_new' (Kd.R_new' ho0 (Kd.R_lt (by (with_reducible repeat (first | apply Kd.R_alloc | apply Kd.R_drewN | apply Kd.R_drew)); exact HO197.out))) (Kd.R_lt (by (with_reducible repeat (first | apply Kd.R_alloc | apply Kd.R_drewN | apply Kd.R_drew)); exact HO201.out))) (below_size (by repeat (first | (with_reducible first | exact HB.out | apply below_alloc | apply pw_below_drewN | apply below_drew1) | exact HB.out)))); have n5_ := Aside0.mk (below_step (by repeat (first | (with_reducible first | exact HB.out | apply below_alloc | apply pw_below_drewN | apply below_drew1) | exact HB.out)) hb); clear HO197; clear HO201; clear HO209; clear HO213; clear HB; have HO197 := n0_; have HO201 := n1_; have HO209 := n2_; have HO213 := n3_; have HO220 := n4_; have HB := n5_; clear n0_ n1_ n2_ n3_ n4_ n5_; (try clear hb); (try clear hb2); (try clear hk); (try clear hi); (try clear ho0)) | (go_at_call 22; (with_reducible refine (phaetonref01_Spread.calls kj5 _ _ l3 t221 _ ?side1 ?side2 A30.out).mono ?_); (case side1 => repeat (first | exact (Kd.C_below HR3.out HB.out) | (with_reducible refine Kd.C_alloc ?_ _) | (with_reducible refine Kd.C_drewN ?_ _) | (with_reducible refine Kd.C_drew ?_))); (case side2 => exact HC3.out); rintro e w42 ⟨v222, rfl, ho0, hb⟩; have n0_ := Aside0.mk (Kd.R_elder' (by (with_reducible repeat (first | apply Kd.R_alloc | apply Kd.R_drewN | apply Kd.R_drew)); exact HO197.out) (Kd.R_base ho0) hb); have n1_ := Aside0.mk (Kd.R_elder' (by (with_reducible repeat (first | apply Kd.R_alloc | apply Kd.R_drewN | apply Kd.R_drew)); exact HO201.out) (Kd.R_base ho0) hb); have n2_ := Aside0.mk (Kd.R_below (by (with_reducible repeat (first | apply Kd.R_alloc | apply Kd.R_drewN | apply Kd.R_drew)); exact HO209.out) hb); have n3_ := Aside0.mk (Kd.R_below (by (with_reducible repeat (first | apply Kd.R_alloc | apply Kd.R_drewN | apply Kd.R_drew)); exact HO213.out) hb); have n4_ := Aside0.mk (Kd.R_elder' (by (with_reducible repeat (first | apply Kd.R_alloc | apply Kd.R_drewN | apply Kd.R_drew)); exact HO220.out) (Kd.R_base ho0) hb); have n5_ := Aside0.mk (Kd.R_lower (Kd.R_new' (Kd.R_new' (Kd.R_new' ho0 (Kd.R_lt (by (with_reducible repeat (first | apply Kd.R_alloc | apply Kd.R_drewN | apply Kd.R_drew)); exact HO197.out))) (Kd.R_lt (by (with_reducible repeat (first | apply Kd.R_alloc | apply Kd.R_drewN | apply Kd.R_drew)); exact HO201.out))) (Kd.R_lt (by (with_reducible repeat (first | apply Kd.R_alloc | apply Kd.R_drewN | apply Kd.R_drew)); exact HO220.out))) (below_size (by repeat (first | (with_reducible first | exact HB.out | apply below_alloc | apply pw_below_drewN | apply below_drew1) | exact HB.out)))); have n6_ := Aside0.mk (below_step (by repeat (first | (with_reducible first | exact HB.out | apply below_alloc | apply pw_below_drewN | apply below_drew1) | exact HB.out)) hb); clear HO197; clear HO201; clear HO209; clear HO213; clear HO220; clear HB; have HO197 := n0_; have HO201 := n1_; have HO209 := n2_; have HO213 := n3_; have HO220 := n4_; have HO223 := n5_; have HB := n6_; clear n0_ n1_ n2_ n3_ n4_ n5_ n6_; (try clear hb); (try clear hb2); (try clear hk); (try clear hi); (try clear ho0); obtain ⟨Ao43, co43, eo43⟩ := Kd.R_slice HO220.out; subst eo43; obtain ⟨Ao44, co44, eo44⟩ := Kd.R_slice HO223.out; subst eo44) | (go_at_call 19; (with_reducible refine (phaetonref01_Same.calls kj5 _ _ t218 _ _ t221 true _ ?side1 ?side2 ?side3 ?side4 A31.out).mono ?_); (case side1 => repeat (first | exact (Kd.R_reads' HO220.out).2.2 | (with_reducible refine Kd.C_alloc ?_ _) | (with_reducible refine Kd.C_drewN ?_ _) | (with_reducible refine Kd.C_drew ?_))); (case side2 => exact (Kd.R_reads' HO220.out).2.1); (case side3 => repeat (first | exact (Kd.R_reads' HO223.out).2.2 | (with_reducible refine Kd.C_alloc ?_ _) | (with_reducible refine Kd.C_drewN ?_ _) | (with_reducible refine Kd.C_drew ?_))); (case side4 => exact (Kd.R_reads' HO223.out).2.1); rintro e w' ⟨rfl, ⟨nd, rfl⟩⟩))
                          go_ret
                          exact ⟨by first | rfl | (simp [errW_none, errW_some] <;> rfl) | (simp [*, errW_none, errW_some] <;> rfl), by repeat (first | (with_reducible first | exact HB.out | apply below_alloc | apply pw_below_drewN | apply below_drew1) | exact HB.out)⟩
                        · replace c32 := Bool.eq_false_iff.mpr c32
                          subst c32
                          have H1 : (none) = some r := by rw [if_neg (show ¬ (false = true) by decide)] at H; exact H
                          clear H
                          have H := H1
                          clear H1
                          exact absurd H (by simp)
                      · rw [if_neg c28] at H
                        exact absurd H (by simp)
                    · replace c27 := Bool.eq_false_iff.mpr c27
                      subst c27
                      have H1 : (none) = some r := by rw [if_neg (show ¬ (false = true) by decide)] at H; exact H
                      clear H
                      have H := H1
                      clear H1
                      exact absurd H (by simp)
                  · rw [if_neg c25] at H
                    exact absurd H (by simp)
                · rw [if_neg c24] at H
                  exact absurd H (by simp)
              · rw [if_neg c23] at H
                exact absurd H (by simp)
            · replace c22 := Bool.eq_false_iff.mpr c22
              subst c22
              have H1 : (none) = some r := by rw [if_neg (show ¬ (false = true) by decide)] at H; exact H
              clear H
              have H := H1
              clear H1
              exact absurd H (by simp)
          · rw [if_neg c20] at H
            exact absurd H (by simp)
        · replace c17 := Bool.eq_false_iff.mpr c17
          subst c17
          have H1 : (none) = some r := by rw [if_neg (show ¬ (false = true) by decide)] at H; exact H
          clear H
          have H := H1
          clear H1
          exact absurd H (by simp)

/-- THE ONE PURE STATEMENT of phaetonlaw01_BitsTells: yours. -/
def phaetonlaw01_BitsTells.Pure : Prop := ∀ (l0 : List Int) (a1 : Int) (a2 : Int) (l3 : List Int), l0.length ≤ maxLen → l0.length * 8 ≤ 140737488351232 → (∀ x ∈ l0, (Lit.int .i64 x).wf = true) → (Lit.int .i64 a1).wf = true → (Lit.int .i64 a2).wf = true → l3.length ≤ maxLen → l3.length * 1 ≤ 140737488351232 → (∀ x ∈ l3, (Lit.int .u8 x).wf = true) → ∃ k, phaetonlaw01_BitsTells.f k l0 a1 a2 l3 = some true
theorem phaetonlaw01_BitsTells.walk (P : phaetonlaw01_BitsTells.Pure) (a0 : Option Addr) (len0 cap0 : Nat) (z0 : List Int) (a1 : Int) (a2 : Int) (a3 : Option Addr) (len3 cap3 : Nat) (z3 : List Int) (w : World) (w0 : (a0 = none ∧ len0 = 0 ∧ cap0 = 0 ∧ z0 = []) ∨ ∃ x, a0 = some x ∧ len0 ≤ cap0 ∧ cap0 ≤ maxLen ∧ z0.length = cap0 ∧ (∀ i, i < z0.length → w.cell? (x.add i) = some (.int .i64 (z0.getD i 0))) ∧ ∀ n ∈ z0, (Lit.int .i64 n).wf = true) (y0 : len0 * 8 ≤ 140737488351232) (w1 : (Lit.int .i64 a1).wf = true) (w2 : (Lit.int .i64 a2).wf = true) (w3 : (a3 = none ∧ len3 = 0 ∧ cap3 = 0 ∧ z3 = []) ∨ ∃ x, a3 = some x ∧ len3 ≤ cap3 ∧ cap3 ≤ maxLen ∧ z3.length = cap3 ∧ (∀ i, i < z3.length → w.cell? (x.add i) = some (.int .u8 (z3.getD i 0))) ∧ ∀ n ∈ z3, (Lit.int .u8 n).wf = true) (y3 : len3 * 1 ≤ 140737488351232) :
    Calls Try.prog 3 #[.slice a0 len0 cap0, .int .i64 a1, .int .i64 a2, .slice a3 len3 cap3] w fun e w' => e = .returned (.bool true) ∧ Below w.heap.size w w' := by
  obtain ⟨l0, rfl, hr0, hm0, hw0, hc0⟩ := ReadsInt.ofRowC w0
  obtain ⟨l3, rfl, hr3, hm3, hw3, hc3⟩ := ReadsInt.ofRowC w3
  obtain ⟨k, h⟩ := P l0 a1 a2 l3 hm0 y0 hw0 w1 w2 hm3 y3 hw3
  refine (phaetonlaw01_BitsTells.calls k _ _ l0 a1 a2 _ _ l3 true w (Kd.C_of_reads (d := (0 : Int)) (h1 := fun _ => rfl) hr0) hc0 (Kd.C_of_reads (d := (0 : Int)) (h1 := fun _ => rfl) hr3) hc3 h).mono ?_
  rintro e w' ⟨rfl, hd⟩
  exact ⟨rfl, hd⟩

/-! ### phaetonlaw01_BitsBack: function 4 -/
def phaetonlaw01_BitsBack.f (k : Nat) (a0 : Int) (a1 : Int) : Option (Bool) := (phaetonlaw01_head.f k).bind fun t225 => ((bits_Put.f a0 a1).bind fun bt226 => (if bt226.2 = true then ((bits_Get.f k bt226.1).bind fun bt230 => (if t225 = true then (if bt230.2 = true then (if bt230.1 = a0 then (if (bt226.1.length : Int) = a1 then ((bits_Right.f k bt226.1).bind fun t232 => (if t232 = true then (if a1 ≥ 0 then (if a1 ≤ 32 then (some true) else (none)) else (none)) else (none))) else (none)) else (none)) else (none)) else (none))) else (if t225 = true then (if (bt226.1.length : Int) = 0 then (if a1 < 0 then (some true) else (if a1 > 32 then (some true) else (if a0 < 0 then (some true) else (if 0 ≤ a1 then (if a0 ≥ (shl .i64 1 a1) then (some true) else (none)) else (none))))) else (none)) else (none))))
theorem phaetonlaw01_BitsBack.mono : ∀ a0 a1 k, LeO (phaetonlaw01_BitsBack.f k a0 a1) (phaetonlaw01_BitsBack.f (k + 1) a0 a1) := by
  intro a0 a1 k
  unfold phaetonlaw01_BitsBack.f
  repeat' first
      | (with_reducible exact bits_Get.mono _ _)
      | (with_reducible exact bits_Right.mono _ _)
      | (with_reducible exact phaetonlaw01_head.mono _)
      | (with_reducible exact LeO.refl _)
      | (with_reducible exact LeO.none _)
      | (with_reducible refine LeO.ite ?_ ?_)
      | (with_reducible refine LeO.bind ?_ (fun _ => ?_))
      | exact bits_Get.mono _ _
      | exact bits_Right.mono _ _
      | exact phaetonlaw01_head.mono _
      | exact LeO.none _
      | refine LeO.ite ?_ ?_
      | refine LeO.bind ?_ (fun _ => ?_)
set_option maxHeartbeats 8000000 in
set_option maxRecDepth 100000 in
theorem phaetonlaw01_BitsBack.calls (k : Nat) (a0 : Int) (a1 : Int) (r : Bool) (w : World) (h : phaetonlaw01_BitsBack.f k a0 a1 = some r) :
    Calls Try.prog 4 #[.int .i64 a0, .int .i64 a1] w fun e w' => e = .returned (.bool r) ∧ Below w.heap.size w w' := by
  have HB := Aside0.mk (Below.refl w.heap.size w)
  have H : ((phaetonlaw01_head.f k).bind fun t225 => ((bits_Put.f a0 a1).bind fun bt226 => (if bt226.2 = true then ((bits_Get.f k bt226.1).bind fun bt230 => (if t225 = true then (if bt230.2 = true then (if bt230.1 = a0 then (if (bt226.1.length : Int) = a1 then ((bits_Right.f k bt226.1).bind fun t232 => (if t232 = true then (if a1 ≥ 0 then (if a1 ≤ 32 then (some true) else (none)) else (none)) else (none))) else (none)) else (none)) else (none)) else (none))) else (if t225 = true then (if (bt226.1.length : Int) = 0 then (if a1 < 0 then (some true) else (if a1 > 32 then (some true) else (if a0 < 0 then (some true) else (if 0 ≤ a1 then (if a0 ≥ (shl .i64 1 a1) then (some true) else (none)) else (none))))) else (none)) else (none))))) = some r := h
  clear h
  replace H := Option.bind_eq_some_iff.mp H
  obtain ⟨t225, A30, H⟩ := H
  replace H : ((bits_Put.f a0 a1).bind fun bt226 => (if bt226.2 = true then ((bits_Get.f k bt226.1).bind fun bt230 => (if t225 = true then (if bt230.2 = true then (if bt230.1 = a0 then (if (bt226.1.length : Int) = a1 then ((bits_Right.f k bt226.1).bind fun t232 => (if t232 = true then (if a1 ≥ 0 then (if a1 ≤ 32 then (some true) else (none)) else (none)) else (none))) else (none)) else (none)) else (none)) else (none))) else (if t225 = true then (if (bt226.1.length : Int) = 0 then (if a1 < 0 then (some true) else (if a1 > 32 then (some true) else (if a0 < 0 then (some true) else (if 0 ≤ a1 then (if a0 ≥ (shl .i64 1 a1) then (some true) else (none)) else (none))))) else (none)) else (none)))) = some r := H
  have A3 := Aside0.mk A30
  clear A30
  replace H := Option.bind_eq_some_iff.mp H
  obtain ⟨⟨t226, t227⟩, A40, H⟩ := H
  replace H : (if t227 = true then ((bits_Get.f k t226).bind fun bt230 => (if t225 = true then (if bt230.2 = true then (if bt230.1 = a0 then (if (t226.length : Int) = a1 then ((bits_Right.f k t226).bind fun t232 => (if t232 = true then (if a1 ≥ 0 then (if a1 ≤ 32 then (some true) else (none)) else (none)) else (none))) else (none)) else (none)) else (none)) else (none))) else (if t225 = true then (if (t226.length : Int) = 0 then (if a1 < 0 then (some true) else (if a1 > 32 then (some true) else (if a0 < 0 then (some true) else (if 0 ≤ a1 then (if a0 ≥ (shl .i64 1 a1) then (some true) else (none)) else (none))))) else (none)) else (none))) = some r := H
  have A4 := Aside0.mk A40
  clear A40
  by_cases c5 : t227 = true
  · subst c5
    have H1 : ((bits_Get.f k t226).bind fun bt230 => (if t225 = true then (if bt230.2 = true then (if bt230.1 = a0 then (if (t226.length : Int) = a1 then ((bits_Right.f k t226).bind fun t232 => (if t232 = true then (if a1 ≥ 0 then (if a1 ≤ 32 then (some true) else (none)) else (none)) else (none))) else (none)) else (none)) else (none)) else (none))) = some r := by rw [if_pos rfl] at H; exact H
    clear H
    have H := H1
    clear H1
    replace H := Option.bind_eq_some_iff.mp H
    obtain ⟨⟨t230, t231⟩, A60, H⟩ := H
    replace H : (if t225 = true then (if t231 = true then (if t230 = a0 then (if (t226.length : Int) = a1 then ((bits_Right.f k t226).bind fun t232 => (if t232 = true then (if a1 ≥ 0 then (if a1 ≤ 32 then (some true) else (none)) else (none)) else (none))) else (none)) else (none)) else (none)) else (none)) = some r := H
    have A6 := Aside0.mk A60
    clear A60
    by_cases c7 : t225 = true
    · subst c7
      have H1 : (if t231 = true then (if t230 = a0 then (if (t226.length : Int) = a1 then ((bits_Right.f k t226).bind fun t232 => (if t232 = true then (if a1 ≥ 0 then (if a1 ≤ 32 then (some true) else (none)) else (none)) else (none))) else (none)) else (none)) else (none)) = some r := by rw [if_pos rfl] at H; exact H
      clear H
      have H := H1
      clear H1
      by_cases c8 : t231 = true
      · subst c8
        have H1 : (if t230 = a0 then (if (t226.length : Int) = a1 then ((bits_Right.f k t226).bind fun t232 => (if t232 = true then (if a1 ≥ 0 then (if a1 ≤ 32 then (some true) else (none)) else (none)) else (none))) else (none)) else (none)) = some r := by rw [if_pos rfl] at H; exact H
        clear H
        have H := H1
        clear H1
        by_cases c9 : t230 = a0
        · rw [if_pos c9] at H
          have c9b0 : (t230 == a0) = true := beq_iff_eq.mpr c9
          have c9b1 : (t230 != a0) = false := bne_eq_false_iff_eq.mpr c9
          clear c9
          by_cases c10 : (t226.length : Int) = a1
          · rw [if_pos c10] at H
            have c10b0 : ((t226.length : Int) == a1) = true := beq_iff_eq.mpr c10
            have c10b1 : ((t226.length : Int) != a1) = false := bne_eq_false_iff_eq.mpr c10
            clear c10
            replace H := Option.bind_eq_some_iff.mp H
            obtain ⟨t232, A110, H⟩ := H
            replace H : (if t232 = true then (if a1 ≥ 0 then (if a1 ≤ 32 then (some true) else (none)) else (none)) else (none)) = some r := H
            have A11 := Aside0.mk A110
            clear A110
            by_cases c12 : t232 = true
            · subst c12
              have H1 : (if a1 ≥ 0 then (if a1 ≤ 32 then (some true) else (none)) else (none)) = some r := by rw [if_pos rfl] at H; exact H
              clear H
              have H := H1
              clear H1
              by_cases c13 : a1 ≥ 0
              · rw [if_pos c13] at H
                have c13b0 : decide (0 ≤ a1) = true := decide_eq_true c13
                clear c13
                by_cases c14 : a1 ≤ 32
                · rw [if_pos c14] at H
                  have c14b0 : decide (a1 ≤ 32) = true := decide_eq_true c14
                  clear c14
                  obtain rfl := Option.some.inj H
                  go_enter Try.func4, Try.ntmps4
                  go_wp2_with (first | ((with_reducible refine gate_callee (f := 10) rfl ?_); refine goesL_ (some 10) rfl rfl Try.func10 (by kernel_rfl) rfl #[] rfl (by (try simp only [List.map_toArray, List.map_cons, List.map_nil]); first | done | rfl | (simp only [List.length_drop, List.length_take]; rfl)) ?_; (with_reducible refine (phaetonlaw01_head.calls k  true _ A3.out).mono ?_); rintro e w15 ⟨rfl, hb⟩; refine ⟨_, rfl, ?_⟩; have n0_ := Aside0.mk (below_step (by repeat (first | (with_reducible first | exact HB.out | apply below_alloc | apply pw_below_drewN | apply below_drew1) | exact HB.out)) hb); clear HB; have HB := n0_; clear n0_; (try clear hb); (try clear hb2); (try clear hk); (try clear hi)) | ((with_reducible refine gate_callee (f := 11) rfl ?_); refine goesL_ (some 14) rfl rfl Try.func11 (by kernel_rfl) rfl #[.int .i64 a0, .int .i64 a1] rfl (by (try simp only [List.map_toArray, List.map_cons, List.map_nil]); first | done | rfl | (simp only [List.length_drop, List.length_take]; rfl)) ?_; (with_reducible refine (bits_Put.calls a0 a1 t226 true _ A4.out).mono ?_); rintro e w16 ⟨v228, rfl, ho0, hb⟩; refine ⟨_, rfl, ?_⟩; have n0_ := Aside0.mk (Kd.R_lower ho0 (below_size (by repeat (first | (with_reducible first | exact HB.out | apply below_alloc | apply pw_below_drewN | apply below_drew1) | exact HB.out)))); have n1_ := Aside0.mk (below_step (by repeat (first | (with_reducible first | exact HB.out | apply below_alloc | apply pw_below_drewN | apply below_drew1) | exact HB.out)) hb); clear HB; have HO229 := n0_; have HB := n1_; clear n0_ n1_; (try clear hb); (try clear hb2); (try clear hk); (try clear hi); (try clear ho0); obtain ⟨Ao17, co17, eo17⟩ := Kd.R_slice HO229.out; subst eo17) | ((with_reducible refine gate_callee (f := 13) rfl ?_); refine goesL_ (some 45) rfl rfl Try.func13 (by kernel_rfl) rfl #[.slice Ao17 t226.length co17] rfl (by (try simp only [List.map_toArray, List.map_cons, List.map_nil]); first | done | rfl | (simp only [List.length_drop, List.length_take]; rfl)) ?_; (with_reducible refine (bits_Get.calls k _ _ t226 t230 true _ ?side1 ?side2 A6.out).mono ?_); (case side1 => repeat (first | exact (Kd.R_reads' HO229.out).2.2 | (with_reducible refine Kd.C_alloc ?_ _) | (with_reducible refine Kd.C_drewN ?_ _) | (with_reducible refine Kd.C_drew ?_))); (case side2 => exact (Kd.R_reads' HO229.out).2.1); rintro e w' ⟨rfl, ⟨nd, rfl⟩⟩; refine ⟨_, rfl, ?_⟩) | (go_at_call 17; (with_reducible refine (bits_Right.calls k _ _ t226 true _ ?side1 ?side2 A11.out).mono ?_); (case side1 => repeat (first | exact (Kd.R_reads' HO229.out).2.2 | (with_reducible refine Kd.C_alloc ?_ _) | (with_reducible refine Kd.C_drewN ?_ _) | (with_reducible refine Kd.C_drew ?_))); (case side2 => exact (Kd.R_reads' HO229.out).2.1); rintro e w' ⟨rfl, ⟨nd, rfl⟩⟩))
                  go_ret
                  exact ⟨by first | rfl | (simp [errW_none, errW_some] <;> rfl) | (simp [*, errW_none, errW_some] <;> rfl), by repeat (first | (with_reducible first | exact HB.out | apply below_alloc | apply pw_below_drewN | apply below_drew1) | exact HB.out)⟩
                · rw [if_neg c14] at H
                  exact absurd H (by simp)
              · rw [if_neg c13] at H
                exact absurd H (by simp)
            · replace c12 := Bool.eq_false_iff.mpr c12
              subst c12
              have H1 : (none) = some r := by rw [if_neg (show ¬ (false = true) by decide)] at H; exact H
              clear H
              have H := H1
              clear H1
              exact absurd H (by simp)
          · rw [if_neg c10] at H
            exact absurd H (by simp)
        · rw [if_neg c9] at H
          exact absurd H (by simp)
      · replace c8 := Bool.eq_false_iff.mpr c8
        subst c8
        have H1 : (none) = some r := by rw [if_neg (show ¬ (false = true) by decide)] at H; exact H
        clear H
        have H := H1
        clear H1
        exact absurd H (by simp)
    · replace c7 := Bool.eq_false_iff.mpr c7
      subst c7
      have H1 : (none) = some r := by rw [if_neg (show ¬ (false = true) by decide)] at H; exact H
      clear H
      have H := H1
      clear H1
      exact absurd H (by simp)
  · replace c5 := Bool.eq_false_iff.mpr c5
    subst c5
    have H1 : (if t225 = true then (if (t226.length : Int) = 0 then (if a1 < 0 then (some true) else (if a1 > 32 then (some true) else (if a0 < 0 then (some true) else (if 0 ≤ a1 then (if a0 ≥ (shl .i64 1 a1) then (some true) else (none)) else (none))))) else (none)) else (none)) = some r := by rw [if_neg (show ¬ (false = true) by decide)] at H; exact H
    clear H
    have H := H1
    clear H1
    by_cases c18 : t225 = true
    · subst c18
      have H1 : (if (t226.length : Int) = 0 then (if a1 < 0 then (some true) else (if a1 > 32 then (some true) else (if a0 < 0 then (some true) else (if 0 ≤ a1 then (if a0 ≥ (shl .i64 1 a1) then (some true) else (none)) else (none))))) else (none)) = some r := by rw [if_pos rfl] at H; exact H
      clear H
      have H := H1
      clear H1
      by_cases c19 : (t226.length : Int) = 0
      · rw [if_pos c19] at H
        have c19b0 : ((t226.length : Int) == 0) = true := beq_iff_eq.mpr c19
        have c19b1 : ((t226.length : Int) != 0) = false := bne_eq_false_iff_eq.mpr c19
        clear c19
        by_cases c20 : a1 < 0
        · rw [if_pos c20] at H
          have c20b0 : decide (a1 < 0) = true := decide_eq_true c20
          clear c20
          obtain rfl := Option.some.inj H
          go_enter Try.func4, Try.ntmps4
          go_wp2_with (first | ((with_reducible refine gate_callee (f := 10) rfl ?_); refine goesL_ (some 10) rfl rfl Try.func10 (by kernel_rfl) rfl #[] rfl (by (try simp only [List.map_toArray, List.map_cons, List.map_nil]); first | done | rfl | (simp only [List.length_drop, List.length_take]; rfl)) ?_; (with_reducible refine (phaetonlaw01_head.calls k  true _ A3.out).mono ?_); rintro e w21 ⟨rfl, hb⟩; refine ⟨_, rfl, ?_⟩; have n0_ := Aside0.mk (below_step (by repeat (first | (with_reducible first | exact HB.out | apply below_alloc | apply pw_below_drewN | apply below_drew1) | exact HB.out)) hb); clear HB; have HB := n0_; clear n0_; (try clear hb); (try clear hb2); (try clear hk); (try clear hi)) | ((with_reducible refine gate_callee (f := 11) rfl ?_); refine goesL_ (some 14) rfl rfl Try.func11 (by kernel_rfl) rfl #[.int .i64 a0, .int .i64 a1] rfl (by (try simp only [List.map_toArray, List.map_cons, List.map_nil]); first | done | rfl | (simp only [List.length_drop, List.length_take]; rfl)) ?_; (with_reducible refine (bits_Put.calls a0 a1 t226 false _ A4.out).mono ?_); rintro e w22 ⟨v228, rfl, ho0, hb⟩; refine ⟨_, rfl, ?_⟩; have n0_ := Aside0.mk (Kd.R_lower ho0 (below_size (by repeat (first | (with_reducible first | exact HB.out | apply below_alloc | apply pw_below_drewN | apply below_drew1) | exact HB.out)))); have n1_ := Aside0.mk (below_step (by repeat (first | (with_reducible first | exact HB.out | apply below_alloc | apply pw_below_drewN | apply below_drew1) | exact HB.out)) hb); clear HB; have HO229 := n0_; have HB := n1_; clear n0_ n1_; (try clear hb); (try clear hb2); (try clear hk); (try clear hi); (try clear ho0); obtain ⟨Ao23, co23, eo23⟩ := Kd.R_slice HO229.out; subst eo23))
          go_ret
          exact ⟨by first | rfl | (simp [errW_none, errW_some] <;> rfl) | (simp [*, errW_none, errW_some] <;> rfl), by repeat (first | (with_reducible first | exact HB.out | apply below_alloc | apply pw_below_drewN | apply below_drew1) | exact HB.out)⟩
        · rw [if_neg c20] at H
          have c20b0 : decide (a1 < 0) = false := decide_eq_false c20
          clear c20
          by_cases c24 : a1 > 32
          · rw [if_pos c24] at H
            have c24b0 : decide (32 < a1) = true := decide_eq_true c24
            clear c24
            obtain rfl := Option.some.inj H
            go_enter Try.func4, Try.ntmps4
            go_wp2_with (first | ((with_reducible refine gate_callee (f := 10) rfl ?_); refine goesL_ (some 10) rfl rfl Try.func10 (by kernel_rfl) rfl #[] rfl (by (try simp only [List.map_toArray, List.map_cons, List.map_nil]); first | done | rfl | (simp only [List.length_drop, List.length_take]; rfl)) ?_; (with_reducible refine (phaetonlaw01_head.calls k  true _ A3.out).mono ?_); rintro e w25 ⟨rfl, hb⟩; refine ⟨_, rfl, ?_⟩; have n0_ := Aside0.mk (below_step (by repeat (first | (with_reducible first | exact HB.out | apply below_alloc | apply pw_below_drewN | apply below_drew1) | exact HB.out)) hb); clear HB; have HB := n0_; clear n0_; (try clear hb); (try clear hb2); (try clear hk); (try clear hi)) | ((with_reducible refine gate_callee (f := 11) rfl ?_); refine goesL_ (some 14) rfl rfl Try.func11 (by kernel_rfl) rfl #[.int .i64 a0, .int .i64 a1] rfl (by (try simp only [List.map_toArray, List.map_cons, List.map_nil]); first | done | rfl | (simp only [List.length_drop, List.length_take]; rfl)) ?_; (with_reducible refine (bits_Put.calls a0 a1 t226 false _ A4.out).mono ?_); rintro e w26 ⟨v228, rfl, ho0, hb⟩; refine ⟨_, rfl, ?_⟩; have n0_ := Aside0.mk (Kd.R_lower ho0 (below_size (by repeat (first | (with_reducible first | exact HB.out | apply below_alloc | apply pw_below_drewN | apply below_drew1) | exact HB.out)))); have n1_ := Aside0.mk (below_step (by repeat (first | (with_reducible first | exact HB.out | apply below_alloc | apply pw_below_drewN | apply below_drew1) | exact HB.out)) hb); clear HB; have HO229 := n0_; have HB := n1_; clear n0_ n1_; (try clear hb); (try clear hb2); (try clear hk); (try clear hi); (try clear ho0); obtain ⟨Ao27, co27, eo27⟩ := Kd.R_slice HO229.out; subst eo27))
            go_ret
            exact ⟨by first | rfl | (simp [errW_none, errW_some] <;> rfl) | (simp [*, errW_none, errW_some] <;> rfl), by repeat (first | (with_reducible first | exact HB.out | apply below_alloc | apply pw_below_drewN | apply below_drew1) | exact HB.out)⟩
          · rw [if_neg c24] at H
            have c24b0 : decide (32 < a1) = false := decide_eq_false c24
            clear c24
            by_cases c28 : a0 < 0
            · rw [if_pos c28] at H
              have c28b0 : decide (a0 < 0) = true := decide_eq_true c28
              clear c28
              obtain rfl := Option.some.inj H
              go_enter Try.func4, Try.ntmps4
              go_wp2_with (first | ((with_reducible refine gate_callee (f := 10) rfl ?_); refine goesL_ (some 10) rfl rfl Try.func10 (by kernel_rfl) rfl #[] rfl (by (try simp only [List.map_toArray, List.map_cons, List.map_nil]); first | done | rfl | (simp only [List.length_drop, List.length_take]; rfl)) ?_; (with_reducible refine (phaetonlaw01_head.calls k  true _ A3.out).mono ?_); rintro e w29 ⟨rfl, hb⟩; refine ⟨_, rfl, ?_⟩; have n0_ := Aside0.mk (below_step (by repeat (first | (with_reducible first | exact HB.out | apply below_alloc | apply pw_below_drewN | apply below_drew1) | exact HB.out)) hb); clear HB; have HB := n0_; clear n0_; (try clear hb); (try clear hb2); (try clear hk); (try clear hi)) | ((with_reducible refine gate_callee (f := 11) rfl ?_); refine goesL_ (some 14) rfl rfl Try.func11 (by kernel_rfl) rfl #[.int .i64 a0, .int .i64 a1] rfl (by (try simp only [List.map_toArray, List.map_cons, List.map_nil]); first | done | rfl | (simp only [List.length_drop, List.length_take]; rfl)) ?_; (with_reducible refine (bits_Put.calls a0 a1 t226 false _ A4.out).mono ?_); rintro e w30 ⟨v228, rfl, ho0, hb⟩; refine ⟨_, rfl, ?_⟩; have n0_ := Aside0.mk (Kd.R_lower ho0 (below_size (by repeat (first | (with_reducible first | exact HB.out | apply below_alloc | apply pw_below_drewN | apply below_drew1) | exact HB.out)))); have n1_ := Aside0.mk (below_step (by repeat (first | (with_reducible first | exact HB.out | apply below_alloc | apply pw_below_drewN | apply below_drew1) | exact HB.out)) hb); clear HB; have HO229 := n0_; have HB := n1_; clear n0_ n1_; (try clear hb); (try clear hb2); (try clear hk); (try clear hi); (try clear ho0); obtain ⟨Ao31, co31, eo31⟩ := Kd.R_slice HO229.out; subst eo31))
              go_ret
              exact ⟨by first | rfl | (simp [errW_none, errW_some] <;> rfl) | (simp [*, errW_none, errW_some] <;> rfl), by repeat (first | (with_reducible first | exact HB.out | apply below_alloc | apply pw_below_drewN | apply below_drew1) | exact HB.out)⟩
            · rw [if_neg c28] at H
              have c28b0 : decide (a0 < 0) = false := decide_eq_false c28
              clear c28
              by_cases c32 : 0 ≤ a1
              · rw [if_pos c32] at H
                have c32b0 := eq_true c32
                have c32b1 : decide (0 ≤ a1) = true := decide_eq_true c32
                clear c32
                obtain ⟨ji33, hji33⟩ : ∃ j_ : Int, (shl .i64 1 a1) = j_ := ⟨_, rfl⟩
                replace H : (if a0 ≥ (ji33) then (some true) else (none)) = some r := by first | (rw [hji33] at H; exact H) | (simp only [hji33] at H ⊢; exact H)
                (try rw [hji33] at A3)
                (try rw [hji33] at A4)
                have hji33_ : (IntKind.i64.wrap (1 * 2 ^ min a1.toNat 64)) = ji33 := hji33
                have hji33z : a1 ≤ 64 → (IntKind.i64.wrap (1 * 2 ^ a1.toNat)) = ji33 := shl_small hji33
                have hji33u : (IntKind.i64.wrap (2 ^ min a1.toNat 64)) = ji33 := by have h_ := hji33_; rw [Int.one_mul] at h_; exact h_
                have hji33v : a1 ≤ 64 → (IntKind.i64.wrap (2 ^ a1.toNat)) = ji33 := fun hle_ => by have h_ := hji33z hle_; rw [Int.one_mul] at h_; exact h_
                have hji33y : (wrap64 (1 * 2 ^ min a1.toNat 64)) = ji33 := (i64_w _).symm.trans hji33_
                have hji33x : a1 ≤ 64 → (wrap64 (1 * 2 ^ a1.toNat)) = ji33 := fun h_ => (i64_w _).symm.trans (hji33z h_)
                by_cases c34 : a0 ≥ (ji33)
                · rw [if_pos c34] at H
                  have c34b0 : decide ((ji33) ≤ a0) = true := decide_eq_true c34
                  clear c34
                  obtain rfl := Option.some.inj H
                  go_enter Try.func4, Try.ntmps4
                  go_wp2_with (first | ((with_reducible refine gate_callee (f := 10) rfl ?_); refine goesL_ (some 10) rfl rfl Try.func10 (by kernel_rfl) rfl #[] rfl (by (try simp only [List.map_toArray, List.map_cons, List.map_nil]); first | done | rfl | (simp only [List.length_drop, List.length_take]; rfl)) ?_; (with_reducible refine (phaetonlaw01_head.calls k  true _ A3.out).mono ?_); rintro e w35 ⟨rfl, hb⟩; refine ⟨_, rfl, ?_⟩; have n0_ := Aside0.mk (below_step (by repeat (first | (with_reducible first | exact HB.out | apply below_alloc | apply pw_below_drewN | apply below_drew1) | exact HB.out)) hb); clear HB; have HB := n0_; clear n0_; (try clear hb); (try clear hb2); (try clear hk); (try clear hi)) | ((with_reducible refine gate_callee (f := 11) rfl ?_); refine goesL_ (some 14) rfl rfl Try.func11 (by kernel_rfl) rfl #[.int .i64 a0, .int .i64 a1] rfl (by (try simp only [List.map_toArray, List.map_cons, List.map_nil]); first | done | rfl | (simp only [List.length_drop, List.length_take]; rfl)) ?_; (with_reducible refine (bits_Put.calls a0 a1 t226 false _ A4.out).mono ?_); rintro e w36 ⟨v228, rfl, ho0, hb⟩; refine ⟨_, rfl, ?_⟩; have n0_ := Aside0.mk (Kd.R_lower ho0 (below_size (by repeat (first | (with_reducible first | exact HB.out | apply below_alloc | apply pw_below_drewN | apply below_drew1) | exact HB.out)))); have n1_ := Aside0.mk (below_step (by repeat (first | (with_reducible first | exact HB.out | apply below_alloc | apply pw_below_drewN | apply below_drew1) | exact HB.out)) hb); clear HB; have HO229 := n0_; have HB := n1_; clear n0_ n1_; (try clear hb); (try clear hb2); (try clear hk); (try clear hi); (try clear ho0); obtain ⟨Ao37, co37, eo37⟩ := Kd.R_slice HO229.out; subst eo37))
                  go_ret
                  exact ⟨by first | rfl | (simp [errW_none, errW_some] <;> rfl) | (simp only [← hji33]; first | rfl | (simp [errW_none, errW_some] <;> rfl)) | (simp [*, errW_none, errW_some] <;> rfl), by repeat (first | (with_reducible first | exact HB.out | apply below_alloc | apply pw_below_drewN | apply below_drew1) | exact HB.out)⟩
                · rw [if_neg c34] at H
                  exact absurd H (by simp)
              · rw [if_neg c32] at H
                exact absurd H (by simp)
      · rw [if_neg c19] at H
        exact absurd H (by simp)
    · replace c18 := Bool.eq_false_iff.mpr c18
      subst c18
      have H1 : (none) = some r := by rw [if_neg (show ¬ (false = true) by decide)] at H; exact H
      clear H
      have H := H1
      clear H1
      exact absurd H (by simp)

/-- THE ONE PURE STATEMENT of phaetonlaw01_BitsBack: yours. -/
def phaetonlaw01_BitsBack.Pure : Prop := ∀ (a0 : Int) (a1 : Int), (Lit.int .i64 a0).wf = true → (Lit.int .i64 a1).wf = true → ∃ k, phaetonlaw01_BitsBack.f k a0 a1 = some true
theorem phaetonlaw01_BitsBack.walk (P : phaetonlaw01_BitsBack.Pure) (a0 : Int) (a1 : Int) (w : World) (w0 : (Lit.int .i64 a0).wf = true) (w1 : (Lit.int .i64 a1).wf = true) :
    Calls Try.prog 4 #[.int .i64 a0, .int .i64 a1] w fun e w' => e = .returned (.bool true) ∧ Below w.heap.size w w' := by
  obtain ⟨k, h⟩ := P a0 a1 w0 w1
  refine (phaetonlaw01_BitsBack.calls k a0 a1 true w h).mono ?_
  rintro e w' ⟨rfl, hd⟩
  exact ⟨rfl, hd⟩

end Go.Proofs.Ytcakokhhpihmlaa.Px

-- Written by myprint.py, a program of this session's, over the kit's print.py; not a text of print.sh's own.
import Derived.Test.YtonffeckadmlcaaPx0
import Derived.Test.YtonffeckadmlcaaPx1
import Derived.Test.YtonffeckadmlcaaPx2
namespace Go.Proofs.Ytonffeckadmlcaa.Px
open Go.RowKit Go.Proofs.YtonffeckadmlcaaW.PrintWords Go.Proofs.YtonffeckadmlcaaW.PrintLast Go.Proofs.YtonffeckadmlcaaW.PrintMore
attribute [local go_sem] max2_int min2_int max_two min_two max_three min_three max_four min_four   -- for this text's walks alone
set_option linter.unusedVariables false
set_option linter.unusedSimpArgs false

/-! ### phaetonlaw02_CrcBytes: function 6 -/
mutual
def phaetonlaw02_CrcBytes.j0 : Nat → List Int → Int → Int → Bool → Bool → Option (Bool)
  | 0, _, _, _, _, _ => none
  | k + 1, x0, x1, x2, x7, x24 => if x24 = true then (if x7 = true then (some true) else (none)) else (if (wrap64 ((x0.length : Int) - 3)) = 0 then (none) else ((some (([] : List Int) : List Int)).bind fun y187 => (if y187.length + x0.length < 140737488355328 then (phaetonlaw02_CrcBytes.l0 k x0 x2 x7 (Int.tmod (wrap64 (x1)) (wrap64 ((x0.length : Int) - 3))) (y187 ++ x0) 0) else (none))))
def phaetonlaw02_CrcBytes.l0 : Nat → List Int → Int → Bool → Int → List Int → Int → Option (Bool)
  | 0, _, _, _, _, _, _ => none
  | k + 1, x0, x2, x7, x8, x9, x10 => if x10 < 4 then (if 0 ≤ (wrap64 (x8 + x10)) then (if (wrap64 (x8 + x10)) < (x9.length : Int) then (if 0 ≤ (wrap64 (8 * x10)) then (phaetonlaw02_CrcBytes.l0 k x0 x2 x7 x8 (x9.set ((wrap64 (x8 + x10)) : Int).toNat (Go.bits .xor .u8 (rd x9 (wrap64 (x8 + x10))) ((shr .u32 x2 (wrap64 (8 * x10))) % 256))) (wrap64 (x10 + 1))) else (none)) else (none)) else (none)) else ((some (([] : List Int) : List Int)).bind fun y195 => (if y195.length + x0.length < 140737488355328 then ((some (y195 ++ x0 : List Int)).bind fun y198 => (if 0 ≤ x8 then (if x8 < (y198.length : Int) then (if x7 = true then ((crc_Word.f x9).bind fun t203 => ((crc_Word.f x0).bind fun t204 => (if t203 = t204 then (none) else ((crc_Byte.f (y198.set (x8 : Int).toNat (Go.bits .xor .u8 (rd y198 x8) ((((Int.tmod x2 255) + 1) % 4294967296) % 256)))).bind fun t205 => ((crc_Byte.f x0).bind fun t206 => (if t205 = t206 then (none) else (some true))))))) else (none)) else (none)) else (none))) else (none)))
end
def phaetonlaw02_CrcBytes.f (k : Nat) (l0 : List Int) (a1 : Int) (a2 : Int) : Option (Bool) := (phaetonlaw02_head.f k).bind fun t186 => (if (l0.length : Int) > 1000 then (phaetonlaw02_CrcBytes.j0 k l0 a1 a2 t186 true) else (if (l0.length : Int) < 4 then (phaetonlaw02_CrcBytes.j0 k l0 a1 a2 t186 true) else (phaetonlaw02_CrcBytes.j0 k l0 a1 a2 t186 (a2 == 0))))
theorem phaetonlaw02_CrcBytes.mono_l : ∀ k, (∀ y0 y1 y2 y3 y4, LeO (phaetonlaw02_CrcBytes.j0 k y0 y1 y2 y3 y4) (phaetonlaw02_CrcBytes.j0 (k + 1) y0 y1 y2 y3 y4)) ∧ (∀ y0 y1 y2 y3 y4 y5, LeO (phaetonlaw02_CrcBytes.l0 k y0 y1 y2 y3 y4 y5) (phaetonlaw02_CrcBytes.l0 (k + 1) y0 y1 y2 y3 y4 y5))
  | 0 => ⟨fun _ _ _ _ _ r h => by simp [phaetonlaw02_CrcBytes.j0] at h, fun _ _ _ _ _ _ r h => by simp [phaetonlaw02_CrcBytes.l0] at h⟩
  | k + 1 => by
    obtain ⟨ih0, ih1⟩ := phaetonlaw02_CrcBytes.mono_l k
    refine ⟨?_, ?_⟩
    · intro y0 y1 y2 y3 y4
      unfold phaetonlaw02_CrcBytes.j0
      repeat' first
      | (with_reducible exact ih0 _ _ _ _ _)
      | (with_reducible exact ih1 _ _ _ _ _ _)
      | (with_reducible exact phaetonlaw02_head.mono _)
      | (with_reducible exact LeO.refl _)
      | (with_reducible exact LeO.none _)
      | (with_reducible refine LeO.ite ?_ ?_)
      | (with_reducible refine LeO.bind ?_ (fun _ => ?_))
      | exact ih0 _ _ _ _ _
      | exact ih1 _ _ _ _ _ _
      | exact phaetonlaw02_head.mono _
      | exact LeO.none _
      | refine LeO.ite ?_ ?_
      | refine LeO.bind ?_ (fun _ => ?_)
    · intro y0 y1 y2 y3 y4 y5
      unfold phaetonlaw02_CrcBytes.l0
      repeat' first
      | (with_reducible exact ih0 _ _ _ _ _)
      | (with_reducible exact ih1 _ _ _ _ _ _)
      | (with_reducible exact phaetonlaw02_head.mono _)
      | (with_reducible exact LeO.refl _)
      | (with_reducible exact LeO.none _)
      | (with_reducible refine LeO.ite ?_ ?_)
      | (with_reducible refine LeO.bind ?_ (fun _ => ?_))
      | exact ih0 _ _ _ _ _
      | exact ih1 _ _ _ _ _ _
      | exact phaetonlaw02_head.mono _
      | exact LeO.none _
      | refine LeO.ite ?_ ?_
      | refine LeO.bind ?_ (fun _ => ?_)
theorem phaetonlaw02_CrcBytes.mono : ∀ a0 a1 a2 k, LeO (phaetonlaw02_CrcBytes.f k a0 a1 a2) (phaetonlaw02_CrcBytes.f (k + 1) a0 a1 a2) := by
  intro a0 a1 a2 k
  obtain ⟨ih0, ih1⟩ := phaetonlaw02_CrcBytes.mono_l k
  unfold phaetonlaw02_CrcBytes.f
  repeat' first
      | (with_reducible exact ih0 _ _ _ _ _)
      | (with_reducible exact ih1 _ _ _ _ _ _)
      | (with_reducible exact phaetonlaw02_head.mono _)
      | (with_reducible exact LeO.refl _)
      | (with_reducible exact LeO.none _)
      | (with_reducible refine LeO.ite ?_ ?_)
      | (with_reducible refine LeO.bind ?_ (fun _ => ?_))
      | exact ih0 _ _ _ _ _
      | exact ih1 _ _ _ _ _ _
      | exact phaetonlaw02_head.mono _
      | exact LeO.none _
      | refine LeO.ite ?_ ?_
      | refine LeO.bind ?_ (fun _ => ?_)
def phaetonlaw02_CrcBytes.T9 : Bool × List (List Nat × List Nat) := (true, [([], []), ([], []), ([], []), ([1, 2], [1, 2]), ([], []), ([], []), ([], []), ([5, 6], [5, 6]), ([4, 7], [4, 7]), ([8], [8]), ([], []), ([], []), ([11], [11]), ([10, 12], [10, 12]), ([13], [13]), ([9, 14], [9, 14]), ([0, 3, 0, 1, 2, 3, 4, 5, 6, 7, 8, 9, 10, 11, 12, 13, 14, 15], [0, 3]), ([16, 15, 0, 1, 2, 3, 4, 5, 6, 7, 8, 9, 10, 11, 12, 13, 14, 15], [15, 16])])
def phaetonlaw02_CrcBytes.B9 : List Nat := [0, 0, 0, 6, 0, 0, 0, 96, 240, 496, 0, 0, 2048, 7168, 15360, 32752, 65535, 131071]
theorem phaetonlaw02_CrcBytes.tab9 : rtab .any (opsOf Try.f6 9) = phaetonlaw02_CrcBytes.T9 := by kernel_rfl
theorem phaetonlaw02_CrcBytes.bits9 : waitsOk phaetonlaw02_CrcBytes.T9.2 phaetonlaw02_CrcBytes.B9 = true := by kernel_rfl
set_option maxHeartbeats 8000000 in
set_option maxRecDepth 100000 in
theorem phaetonlaw02_CrcBytes.calls (k : Nat) (A0 : Option Addr) (c0 : Nat) (l0 : List Int) (a1 : Int) (a2 : Int) (r : Bool) (w : World) (hr0 : Kd.C (Kd.int .u8) w A0 l0.length l0) (hc0 : l0.length ≤ c0) (h : phaetonlaw02_CrcBytes.f k l0 a1 a2 = some r) :
    Calls Try.prog 6 #[.slice A0 l0.length c0, .int .u16 a1, .int .u32 a2] w fun e w' => e = .returned (.bool r) ∧ Below w.heap.size w w' := by
  have HR0 := Aside0.mk hr0
  have HC0 := Aside0.mk hc0
  clear hr0 hc0
  have HB := Aside0.mk (Below.refl w.heap.size w)
  have H : ((phaetonlaw02_head.f k).bind fun t186 => (if (l0.length : Int) > 1000 then (phaetonlaw02_CrcBytes.j0 k l0 a1 a2 t186 true) else (if (l0.length : Int) < 4 then (phaetonlaw02_CrcBytes.j0 k l0 a1 a2 t186 true) else (phaetonlaw02_CrcBytes.j0 k l0 a1 a2 t186 (a2 == 0))))) = some r := h
  clear h
  replace H := Option.bind_eq_some_iff.mp H
  obtain ⟨t186, A40, H⟩ := H
  replace H : (if (l0.length : Int) > 1000 then (phaetonlaw02_CrcBytes.j0 k l0 a1 a2 t186 true) else (if (l0.length : Int) < 4 then (phaetonlaw02_CrcBytes.j0 k l0 a1 a2 t186 true) else (phaetonlaw02_CrcBytes.j0 k l0 a1 a2 t186 (a2 == 0)))) = some r := H
  have A4 := Aside0.mk A40
  clear A40
  have HC5 := Aside0.mk H
  clear H
  go_enter Try.func6, Try.ntmps6
  go_upto_region 2 with (first | ((with_reducible refine gate_callee (f := 10) rfl ?_); refine goesL_ (some 12) rfl rfl Try.func10 (by kernel_rfl) rfl #[] rfl (by (try simp only [List.map_toArray, List.map_cons, List.map_nil]); first | done | rfl | (simp only [List.length_drop, List.length_take]; rfl)) ?_; (with_reducible refine (phaetonlaw02_head.calls k  t186 _ A4.out).mono ?_); rintro e w6 ⟨rfl, hb⟩; refine ⟨_, rfl, ?_⟩; have n0_ := Aside0.mk (below_step (by repeat (first | (with_reducible first | exact HB.out | apply below_alloc | apply pw_below_drewN | apply below_drew1) | exact HB.out)) hb); clear HB; have HB := n0_; clear n0_; (try clear hb); (try clear hb2); (try clear hk); (try clear hi)))
  (try simp only [Act.put, List.setIfInBounds_toArray, List.set_cons_zero, List.set_cons_succ])
  go_cut [24] (fun v24 wc => ∃ (kq : Nat) (x24_4 : Bool), v24 = .bool x24_4 ∧ Aside0 (phaetonlaw02_CrcBytes.j0 kq l0 a1 a2 t186 x24_4 = some r) ∧ Aside0 (kq ≤ k) ∧ Aside0 (Below w.heap.size w wc))
  case first =>
    have H := HC5.out
    clear HC5
    by_cases c7 : (l0.length : Int) > 1000
    · rw [if_pos c7] at H
      have c7b0 : decide (1000 < (l0.length : Int)) = true := decide_eq_true c7
      have c7b1 : decide (1000 < l0.length) = true := decide_eq_true (by omega)
      clear c7
      (first | rw [c7b0] | (simp only [i64_w, i32_w]; rw [c7b0]) | skip)
      have H' := Aside0.mk H
      clear H
      go_wp2
      go_meet
      case rel => exact ⟨_, (true), (by first | rfl | (simp; done) | (simp [*]; done)), H', ⟨by first | omega | exact Nat.le_refl _⟩, ⟨by repeat (first | (with_reducible first | exact HB.out | apply below_alloc | apply pw_below_drewN | apply below_drew1) | exact HB.out)⟩⟩
    · rw [if_neg c7] at H
      have c7b0 : decide (1000 < (l0.length : Int)) = false := decide_eq_false c7
      have c7b1 : decide (1000 < l0.length) = false := decide_eq_false (by omega)
      clear c7
      (first | rw [c7b0] | (simp only [i64_w, i32_w]; rw [c7b0]) | skip)
      by_cases c8 : (l0.length : Int) < 4
      · rw [if_pos c8] at H
        have c8b0 : decide ((l0.length : Int) < 4) = true := decide_eq_true c8
        have c8b1 : decide (l0.length < 4) = true := decide_eq_true (by omega)
        clear c8
        have H' := Aside0.mk H
        clear H
        go_wp2
        go_meet
        case rel => exact ⟨_, (true), (by first | rfl | (simp; done) | (simp [*]; done)), H', ⟨by first | omega | exact Nat.le_refl _⟩, ⟨by repeat (first | (with_reducible first | exact HB.out | apply below_alloc | apply pw_below_drewN | apply below_drew1) | exact HB.out)⟩⟩
      · rw [if_neg c8] at H
        have c8b0 : decide ((l0.length : Int) < 4) = false := decide_eq_false c8
        have c8b1 : decide (l0.length < 4) = false := decide_eq_false (by omega)
        clear c8
        have H' := Aside0.mk H
        clear H
        go_wp2
        go_meet
        case rel => exact ⟨_, ((a2 == 0)), (by first | rfl | (simp; done) | (simp [*]; done)), H', ⟨by first | omega | exact Nat.le_refl _⟩, ⟨by repeat (first | (with_reducible first | exact HB.out | apply below_alloc | apply pw_below_drewN | apply below_drew1) | exact HB.out)⟩⟩
  case rest =>
    clear HC5
    try clear c1
    try clear p2
    try clear c6
    try clear c7
    try clear c7b0
    try clear c7b1
    try clear c8
    try clear c8b0
    try clear c8b1
    obtain ⟨kq, x24_4, rfl, HA, HJ4, HB⟩ := hcut
    cases kq with
    | zero => exact absurd HA.out (by simp [phaetonlaw02_CrcBytes.j0])
    | succ kj4 =>
      have H := HA.out
      clear HA
      simp only [phaetonlaw02_CrcBytes.j0] at H
      by_cases c9 : x24_4 = true
      · subst c9
        have H1 : (if t186 = true then (some true) else (none)) = some r := by rw [if_pos rfl] at H; exact H
        clear H
        have H := H1
        clear H1
        by_cases c10 : t186 = true
        · subst c10
          have H1 : (some true) = some r := by rw [if_pos rfl] at H; exact H
          clear H
          have H := H1
          clear H1
          obtain rfl := Option.some.inj H
          go_wp2
          go_ret
          exact ⟨by first | rfl | (simp [errW_none, errW_some] <;> rfl) | (simp [*, errW_none, errW_some] <;> rfl), by repeat (first | (with_reducible first | exact HB.out | apply below_alloc | apply pw_below_drewN | apply below_drew1) | exact HB.out)⟩
        · replace c10 := Bool.eq_false_iff.mpr c10
          subst c10
          have H1 : (none) = some r := by rw [if_neg (show ¬ (false = true) by decide)] at H; exact H
          clear H
          have H := H1
          clear H1
          exact absurd H (by simp)
      · replace c9 := Bool.eq_false_iff.mpr c9
        subst c9
        have H1 : (if (wrap64 ((l0.length : Int) - 3)) = 0 then (none) else ((some (([] : List Int) : List Int)).bind fun y187 => (if y187.length + l0.length < 140737488355328 then (phaetonlaw02_CrcBytes.l0 kj4 l0 a2 t186 (Int.tmod (wrap64 (a1)) (wrap64 ((l0.length : Int) - 3))) (y187 ++ l0) 0) else (none)))) = some r := by rw [if_neg (show ¬ (false = true) by decide)] at H; exact H
        clear H
        have H := H1
        clear H1
        by_cases c11 : (wrap64 ((l0.length : Int) - 3)) = 0
        · rw [if_pos c11] at H
          exact absurd H (by simp)
        · rw [if_neg c11] at H
          have c11b0 : ((wrap64 ((l0.length : Int) - 3)) == 0) = false := beq_eq_false_iff_ne.mpr c11
          have c11b1 : ((wrap64 ((l0.length : Int) - 3)) != 0) = true := bne_iff_ne.mpr c11
          obtain ⟨y187, hy187⟩ : ∃ y_ : List Int, y_ = (([] : List Int)) := ⟨_, rfl⟩
          replace H : (if y187.length + l0.length < 140737488355328 then (phaetonlaw02_CrcBytes.l0 kj4 l0 a2 t186 (Int.tmod (wrap64 (a1)) (wrap64 ((l0.length : Int) - 3))) (y187 ++ l0) 0) else (none)) = some r := by first | (rw [hy187]; with_reducible exact H) | (have H2_ := (Option.bind_some _ _).symm.trans H; rw [hy187]; with_reducible exact H2_) | (have H2_ := (Option.bind_some _ _).symm.trans H; with_reducible exact H2_) | with_reducible exact H | (rw [hy187]; exact H) | exact H
          have Ny187 := Aside0.mk hy187
          clear hy187
          by_cases c12 : y187.length + l0.length < 140737488355328
          · rw [if_pos c12] at H
            have LMc12 := Aside0.mk c12
            clear c12
            obtain ⟨y190, hy190⟩ : ∃ y_ : List Int, y_ = (y187 ++ l0) := ⟨_, rfl⟩
            replace H : (phaetonlaw02_CrcBytes.l0 kj4 l0 a2 t186 (Int.tmod (wrap64 (a1)) (wrap64 ((l0.length : Int) - 3))) y190 0) = some r := by first | (rw [hy190]; with_reducible exact H) | (have H2_ := (Option.bind_some _ _).symm.trans H; rw [hy190]; with_reducible exact H2_) | (have H2_ := (Option.bind_some _ _).symm.trans H; with_reducible exact H2_) | with_reducible exact H | (rw [hy190]; exact H) | exact H
            have Ny190 := Aside0.mk hy190
            clear hy190
            have H' := Aside0.mk H
            clear H
            go_wp2_with (first | ((with_reducible refine gate_dst (N := 32) rfl ?_); (try (refine gate_guard (by rfl) ?_; dsimp only)); refine Kd.R_lit (Kd.int .u8) _ 5 ?hg (N := 32) ?hd (xs := ([] : List Int)) (inner := []) (ok := fun _ => True) (okp := fun _ => True) ?hr ?hp (fun _ hk => hk) trivial (Below.refl _ _) (Nat.le_refl _) (by simp) ?_; (case hd => rfl); (case hg => rfl); (case hr => first | (go_simp; done) | (go_simp; rfl)); (case hp => exact (Reps.none _ _)); intro v188 w13 ho14 hb hg_ hnew_; clear hg_ hnew_; (first | rw [← Ny187.out] at ho14 | (simp only [Int.reduceToNat] at ho14; rw [← Ny187.out] at ho14)); have n0_ := Aside0.mk (Kd.R_lower ho14 (below_size (by repeat (first | (with_reducible first | exact HB.out | apply below_alloc | apply pw_below_drewN | apply below_drew1) | exact HB.out)))); have n1_ := Aside0.mk (below_step (by repeat (first | (with_reducible first | exact HB.out | apply below_alloc | apply pw_below_drewN | apply below_drew1) | exact HB.out)) hb); clear HB; have HO189 := n0_; have HB := n1_; clear n0_ n1_; clear hb ho14) | ((with_reducible refine gate_builtin (b := .append) (xs := #[.tmp 32, .tmp 33]) rfl ?_); (try (refine gate_guard (by rfl) ?_; dsimp only)); at_builtin; refine Kd.R_append_rows (Kd.int .u8) (w0 := w) w.heap.size rfl (.tmp 32) (.tmp 33) 23 5 (.int .u8 0) 1 rfl Try.underlying23 info5 rfl (by decide) (by omega) v188 y187 l0 _ _ _ (fun _ => True) (fun _ => False) rfl rfl ?aO ?aR (fun _ _ h => h) (fun _ h => h.elim) ?aF ?aB ?aS ?aL ?_; (case aR => repeat (first | exact (Kd.C_below HR0.out HB.out) | (with_reducible refine Kd.C_alloc ?_ _) | (with_reducible refine Kd.C_drewN ?_ _) | (with_reducible refine Kd.C_drew ?_))); (case aB => exact (by repeat (first | (with_reducible first | exact HB.out | apply below_alloc | apply pw_below_drewN | apply below_drew1) | exact HB.out))); (case aF => exact (fun _ _ => trivial)); (case aO => exact (by (with_reducible repeat (first | apply Kd.R_alloc | apply Kd.R_drewN | apply Kd.R_drew)); exact HO189.out)); (case aS => exact (below_size (by repeat (first | (with_reducible first | exact HB.out | apply below_alloc | apply pw_below_drewN | apply below_drew1) | exact HB.out)))); (case aL => have := LMc12.out; omega); intro v191 w15 ho hb hg hat; rw [← Ny190.out] at ho; have n0_ := Aside0.mk (hb); have n1_ := Aside0.mk (ho); clear HB; clear HO189; have HB := n0_; have HO192 := n1_; clear n0_ n1_; clear ho hb hg hat))
            go_loopg [10] kj4 (fun kq v10 w' => ∃ (x9_2 : List Int) (x10_2 : Int), v10 = .int .i64 x10_2 ∧ Aside0 (phaetonlaw02_CrcBytes.l0 kq l0 a2 t186 (Int.tmod (wrap64 (a1)) (wrap64 ((l0.length : Int) - 3))) x9_2 x10_2 = some r) ∧ Aside0 (kq ≤ kj4) ∧ Aside0 (Kd.R (Kd.int .u8) 5 w' w.heap.size (fun _ => True) v191 x9_2) ∧ Aside0 (Below w.heap.size w w'))
            case atStart => exact ⟨(y190), (0), (by first | rfl | (simp; done) | (simp [*]; done)), H', ⟨Nat.le_refl _⟩, ⟨by (with_reducible repeat (first | apply Kd.R_alloc | apply Kd.R_drewN | apply Kd.R_drew)); exact HO192.out⟩, ⟨by repeat (first | (with_reducible first | exact HB.out | apply below_alloc | apply pw_below_drewN | apply below_drew1) | exact HB.out)⟩⟩
            case round =>
              clear H'
              try clear c1
              try clear p2
              try clear c6
              try clear p6
              try clear c7
              try clear c7b0
              try clear c7b1
              try clear c8
              try clear c8b0
              try clear c8b1
              try clear c9
              try clear c10
              try clear c11
              try clear c11b0
              try clear c11b1
              try clear c12
              try clear p2
              obtain ⟨x9_2, x10_2, rfl, HA, HK2, HO_9, HB⟩ := hrel
              cases gk with
              | zero => exact absurd HA.out (by simp [phaetonlaw02_CrcBytes.l0])
              | succ k2 =>
                have H := HA.out
                clear HA
                simp only [phaetonlaw02_CrcBytes.l0] at H
                by_cases c16 : x10_2 < 4
                · rw [if_pos c16] at H
                  have c16b0 : decide (x10_2 < 4) = true := decide_eq_true c16
                  clear c16
                  obtain ⟨ji17, hji17⟩ : ∃ j_ : Int, (wrap64 ((Int.tmod (wrap64 (a1)) (wrap64 ((l0.length : Int) - 3))) + x10_2)) = j_ := ⟨_, rfl⟩
                  replace H : (if 0 ≤ (ji17) then (if (ji17) < (x9_2.length : Int) then (if 0 ≤ (wrap64 (8 * x10_2)) then (phaetonlaw02_CrcBytes.l0 k2 l0 a2 t186 (Int.tmod (wrap64 (a1)) (wrap64 ((l0.length : Int) - 3))) (x9_2.set ((ji17) : Int).toNat (Go.bits .xor .u8 (rd x9_2 (ji17)) ((shr .u32 a2 (wrap64 (8 * x10_2))) % 256))) (wrap64 (x10_2 + 1))) else (none)) else (none)) else (none)) = some r := by first | (rw [hji17] at H; exact H) | (simp only [hji17] at H ⊢; exact H)
                  have hji17w : (IntKind.i64.wrap ((Int.tmod (wrap64 (a1)) (wrap64 ((l0.length : Int) - 3))) + x10_2)) = ji17 := (i64_w _).trans hji17
                  by_cases c18 : 0 ≤ (ji17)
                  · rw [if_pos c18] at H
                    have c18b0 : decide (0 ≤ (ji17)) = true := decide_eq_true c18
                    clear c18
                    by_cases c19 : (ji17) < (x9_2.length : Int)
                    · rw [if_pos c19] at H
                      have c19b0 : decide ((ji17) < (x9_2.length : Int)) = true := decide_eq_true c19
                      clear c19
                      obtain ⟨ji20, hji20⟩ : ∃ j_ : Int, (wrap64 (8 * x10_2)) = j_ := ⟨_, rfl⟩
                      replace H : (if 0 ≤ (ji20) then (phaetonlaw02_CrcBytes.l0 k2 l0 a2 t186 (Int.tmod (wrap64 (a1)) (wrap64 ((l0.length : Int) - 3))) (x9_2.set ((ji17) : Int).toNat (Go.bits .xor .u8 (rd x9_2 (ji17)) ((shr .u32 a2 (ji20)) % 256))) (wrap64 (x10_2 + 1))) else (none)) = some r := by first | (rw [hji20] at H; exact H) | (simp only [hji20] at H ⊢; exact H)
                      have hji20w : (IntKind.i64.wrap (8 * x10_2)) = ji20 := (i64_w _).trans hji20
                      by_cases c21 : 0 ≤ (ji20)
                      · rw [if_pos c21] at H
                        have c21b0 := eq_true c21
                        have c21b1 : decide (0 ≤ (ji20)) = true := decide_eq_true c21
                        have c21m : max (ji20) 0 = (ji20) := by omega
                        clear c21
                        obtain ⟨ji22, hji22⟩ : ∃ j_ : Int, (shr .u32 a2 (ji20)) = j_ := ⟨_, rfl⟩
                        replace H : (phaetonlaw02_CrcBytes.l0 k2 l0 a2 t186 (Int.tmod (wrap64 (a1)) (wrap64 ((l0.length : Int) - 3))) (x9_2.set ((ji17) : Int).toNat (Go.bits .xor .u8 (rd x9_2 (ji17)) ((ji22) % 256))) (wrap64 (x10_2 + 1))) = some r := by first | (rw [hji22] at H; exact H) | (simp only [hji22] at H ⊢; exact H)
                        have hji22_ : (a2 / 2 ^ min (ji20).toNat 32) = ji22 := hji22
                        have hji22z : (ji20) ≤ 32 → (a2 / 2 ^ (ji20).toNat) = ji22 := shr_small hji22
                        obtain ⟨y194, hy194⟩ : ∃ y_ : List Int, y_ = (x9_2.set ((ji17) : Int).toNat (Go.bits .xor .u8 (rd x9_2 (ji17)) ((ji22) % 256))) := ⟨_, rfl⟩
                        replace H : (phaetonlaw02_CrcBytes.l0 k2 l0 a2 t186 (Int.tmod (wrap64 (a1)) (wrap64 ((l0.length : Int) - 3))) y194 (wrap64 (x10_2 + 1))) = some r := by first | (rw [hy194]; with_reducible exact H) | (have H2_ := (Option.bind_some _ _).symm.trans H; rw [hy194]; with_reducible exact H2_) | (have H2_ := (Option.bind_some _ _).symm.trans H; with_reducible exact H2_) | with_reducible exact H | (rw [hy194]; exact H) | exact H
                        have Ny194 := Aside0.mk hy194
                        clear hy194
                        have H' := Aside0.mk H
                        clear H
                        try go_wp2
                        have n0_ := Aside0.mk (Kd.R_drew HO_9.out)
                        have n1_ := Aside0.mk (below_drew1 HB.out)
                        clear HO_9
                        clear HB
                        have HO_9 := n0_
                        have HB := n1_
                        clear n0_ n1_
                        obtain ⟨Ao25, co25, eo25⟩ := Kd.R_slice HO_9.out
                        (first | subst eo25 | (injection eo25 with f1_ f2_ f3_; have f4_ := f1_.symm; have f5_ := f3_.symm; clear f1_ f2_ f3_; subst f4_; subst f5_))
                        have p193 : 0 ≤ ((ji17) : Int) := of_decide_eq_true (by first | (with_reducible assumption) | assumption)
                        have q193 : (ji17) < (x9_2.length : Int) := of_decide_eq_true (by first | (with_reducible assumption) | assumption)
                        obtain ⟨ad193, e193, hx193_0⟩ := Kd.at_int (Kd.R_reads' HO_9.out).2.2 (ji17) p193 q193
                        cases e193
                        replace p193 := eq_true p193
                        replace q193 := eq_true q193
                        have p23 : 0 ≤ ((ji17) : Int) := of_decide_eq_true (by first | (with_reducible assumption) | assumption)
                        have q23 : ((ji17) : Int) < ((x9_2.length : Int) : Int) := of_decide_eq_true (by first | (with_reducible assumption) | assumption)
                        obtain ⟨go23, co23, eo23, gb23, gl23, cl23, HG23⟩ := Kd.R_form HO_9.out (by omega)
                        (first | cases eo23 | (injection eo23 with ea_ en_ ec_; (first | subst ea_ | (injection ea_ with ea_; subst ea_)); subst ec_; clear en_))
                        have GB23 := Aside0.mk gb23
                        have GG23 := Aside0.mk HG23
                        clear gb23 gl23 HG23
                        (first | simp only [add_plain] at hx193_0 | skip)
                        obtain ⟨hx23_0, hf23_0⟩ := Kd.R_celln 0 HO_9.out ((ji17) : Int) p23 q23
                        replace p23 := eq_true p23
                        replace q23 := eq_true q23
                        have HP26 := Kd.R_putn HO_9.out ((ji17) : Int) (Go.bits .xor .u8 (rd x9_2 (ji17)) ((ji22) % 256))
                        rw [← Ny194.out] at HP26
                        have HQ26 := Aside0.mk HP26
                        clear HP26
                        refine start_ (n := 18) (S := fun w' => w'.cell? ⟨go23, ((ji17)).toNat, none⟩ = some (.int .u8 (rd x9_2 (ji17)))) (ds := [17]) #[false, false, false, false, false, false, false, false, false, false, false, false, false, false, false, false, false, false] (by kernel_rfl) rfl rfl (hx193_0) (fun hHeld => ?_); refine with_tabW phaetonlaw02_CrcBytes.tab9 phaetonlaw02_CrcBytes.bits9 (fun HT_ HW_ => ?_)
                        generalize wr.drew = w24 at HO_9 HB GG23 HQ26 hf23_0 hx193_0 hx23_0 hHeld ⊢
                        refine pure_ (i := 0) (N := some 39) (v := ?_) (a' := ?_) #[true, false, false, false, false, false, false, false, false, false, false, false, false, false, false, false, false, false] rfl rfl (any_of HT_.out (by kernel_rfl)) (fun _ _ _ h => h) (Or.inl ⟨by rfl, ?_⟩) ?_ ?_
                        rotate_left
                        · intro w'
                          go_simp
                          with_reducible rfl
                        rotate_left
                        · simp only [Act.put, List.setIfInBounds_toArray, List.set_cons_zero, List.set_cons_succ, i64_w, i32_w]
                          rfl
                        refine pure_ (i := 1) (N := some 40) (v := ?_) (a' := ?_) #[true, true, false, false, false, false, false, false, false, false, false, false, false, false, false, false, false, false] rfl rfl (any_of HT_.out (by kernel_rfl)) (fun _ _ _ h => h) (Or.inl ⟨by rfl, ?_⟩) ?_ ?_
                        rotate_left
                        · intro w'
                          go_simp
                          with_reducible rfl
                        rotate_left
                        · simp only [Act.put, List.setIfInBounds_toArray, List.set_cons_zero, List.set_cons_succ, i64_w, i32_w]
                          rfl
                        refine pure_ (i := 2) (N := some 41) (v := ?_) (a' := ?_) #[true, true, true, false, false, false, false, false, false, false, false, false, false, false, false, false, false, false] rfl rfl (any_of HT_.out (by kernel_rfl)) (fun _ _ _ h => h) (Or.inl ⟨by rfl, ?_⟩) ?_ ?_
                        rotate_left
                        · intro w'
                          go_simp
                          with_reducible rfl
                        rotate_left
                        · simp only [Act.put, List.setIfInBounds_toArray, List.set_cons_zero, List.set_cons_succ, i64_w, i32_w]
                          rfl
                        refine pure_ (i := 3) (N := some 42) (v := ?_) (a' := ?_) #[true, true, true, true, false, false, false, false, false, false, false, false, false, false, false, false, false, false] rfl rfl (any_of HT_.out (by kernel_rfl)) (fun _ _ _ h => h) (Or.inl ⟨by rfl, ?_⟩) ?_ ?_
                        rotate_left
                        · intro w'
                          go_simp
                          with_reducible rfl
                        rotate_left
                        · simp only [Act.put, List.setIfInBounds_toArray, List.set_cons_zero, List.set_cons_succ, i64_w, i32_w]
                          rfl
                        refine pure_ (i := 4) (N := some 43) (v := ?_) (a' := ?_) #[true, true, true, true, true, false, false, false, false, false, false, false, false, false, false, false, false, false] rfl rfl (any_of HT_.out (by kernel_rfl)) (fun _ _ _ h => h) (Or.inl ⟨by rfl, ?_⟩) ?_ ?_
                        rotate_left
                        · intro w'
                          go_simp
                          with_reducible rfl
                        rotate_left
                        · simp only [Act.put, List.setIfInBounds_toArray, List.set_cons_zero, List.set_cons_succ, i64_w, i32_w]
                          rfl
                        refine pure_ (i := 5) (N := some 44) (v := ?_) (a' := ?_) #[true, true, true, true, true, true, false, false, false, false, false, false, false, false, false, false, false, false] rfl rfl (any_of HT_.out (by kernel_rfl)) (fun _ _ _ h => h) (Or.inl ⟨by rfl, ?_⟩) ?_ ?_
                        rotate_left
                        · intro w'
                          go_simp
                          with_reducible rfl
                        rotate_left
                        · simp only [Act.put, List.setIfInBounds_toArray, List.set_cons_zero, List.set_cons_succ, i64_w, i32_w]
                          rfl
                        refine pure_ (i := 6) (N := some 45) (v := ?_) (a' := ?_) #[true, true, true, true, true, true, true, false, false, false, false, false, false, false, false, false, false, false] rfl rfl (any_of HT_.out (by kernel_rfl)) (fun _ _ _ h => h) (Or.inl ⟨by rfl, ?_⟩) ?_ ?_
                        rotate_left
                        · intro w'
                          go_simp
                          with_reducible rfl
                        rotate_left
                        · simp only [Act.put, List.setIfInBounds_toArray, List.set_cons_zero, List.set_cons_succ, i64_w, i32_w]
                          rfl
                        refine pure_ (i := 7) (N := some 46) (v := ?_) (a' := ?_) #[true, true, true, true, true, true, true, true, false, false, false, false, false, false, false, false, false, false] rfl rfl (any_of HT_.out (by kernel_rfl)) (fun _ _ _ h => h) (Or.inl ⟨by rfl, ?_⟩) ?_ ?_
                        rotate_left
                        · intro w'
                          go_simp
                          with_reducible rfl
                        rotate_left
                        · simp only [Act.put, List.setIfInBounds_toArray, List.set_cons_zero, List.set_cons_succ, i64_w, i32_w]
                          rfl
                        refine pure_ (i := 8) (N := some 47) (v := ?_) (a' := ?_) #[true, true, true, true, true, true, true, true, true, false, false, false, false, false, false, false, false, false] rfl rfl (any_of HT_.out (by kernel_rfl)) (fun _ _ _ h => h) (Or.inl ⟨by rfl, ?_⟩) ?_ ?_
                        rotate_left
                        · intro w'
                          go_simp
                          with_reducible rfl
                        rotate_left
                        · simp only [Act.put, List.setIfInBounds_toArray, List.set_cons_zero, List.set_cons_succ, i64_w, i32_w]
                          rfl
                        refine pure_ (i := 10) (N := some 49) (v := ?_) (a' := ?_) #[true, true, true, true, true, true, true, true, true, false, true, false, false, false, false, false, false, false] rfl rfl (any_of HT_.out (by kernel_rfl)) (fun _ _ _ h => h) (Or.inl ⟨by rfl, ?_⟩) ?_ ?_
                        rotate_left
                        · intro w'
                          go_simp
                          with_reducible rfl
                        rotate_left
                        · simp only [Act.put, List.setIfInBounds_toArray, List.set_cons_zero, List.set_cons_succ, i64_w, i32_w]
                          rfl
                        refine pure_ (i := 11) (N := some 50) (v := ?_) (a' := ?_) #[true, true, true, true, true, true, true, true, true, false, true, true, false, false, false, false, false, false] rfl rfl (any_of HT_.out (by kernel_rfl)) (fun _ _ _ h => h) (Or.inl ⟨by rfl, ?_⟩) ?_ ?_
                        rotate_left
                        · intro w'
                          go_simp
                          with_reducible rfl
                        rotate_left
                        · simp only [Act.put, List.setIfInBounds_toArray, List.set_cons_zero, List.set_cons_succ, i64_w, i32_w]
                          rfl
                        refine pure_ (i := 12) (N := some 51) (v := ?_) (a' := ?_) #[true, true, true, true, true, true, true, true, true, false, true, true, true, false, false, false, false, false] rfl rfl (any_of HT_.out (by kernel_rfl)) (fun _ _ _ h => h) (Or.inl ⟨by rfl, ?_⟩) ?_ ?_
                        rotate_left
                        · intro w'
                          go_simp
                          with_reducible rfl
                        rotate_left
                        · simp only [Act.put, List.setIfInBounds_toArray, List.set_cons_zero, List.set_cons_succ, i64_w, i32_w]
                          rfl
                        refine pure_ (i := 13) (N := some 52) (v := ?_) (a' := ?_) #[true, true, true, true, true, true, true, true, true, false, true, true, true, true, false, false, false, false] rfl rfl (any_of HT_.out (by kernel_rfl)) (fun _ _ _ h => h) (Or.inl ⟨by rfl, ?_⟩) ?_ ?_
                        rotate_left
                        · intro w'
                          go_simp
                          with_reducible rfl
                        rotate_left
                        · simp only [Act.put, List.setIfInBounds_toArray, List.set_cons_zero, List.set_cons_succ, i64_w, i32_w]
                          rfl
                        refine pure_ (i := 14) (N := some 53) (v := ?_) (a' := ?_) #[true, true, true, true, true, true, true, true, true, false, true, true, true, true, true, false, false, false] rfl rfl (any_of HT_.out (by kernel_rfl)) (fun _ _ _ h => h) (Or.inl ⟨by rfl, ?_⟩) ?_ ?_
                        rotate_left
                        · intro w'
                          go_simp
                          with_reducible rfl
                        rotate_left
                        · simp only [Act.put, List.setIfInBounds_toArray, List.set_cons_zero, List.set_cons_succ, i64_w, i32_w]
                          rfl
                        refine take_ (i := 9) (N := some 48) (v := ?_) (a' := ?_) #[true, true, true, true, true, true, true, true, true, true, true, true, true, true, true, false, false, false] rfl rfl (take_ofW HT_.out HW_.out (by kernel_rfl)) (fun _ _ _ h => h) (Or.inl ⟨by rfl, ?_⟩) hHeld ?_ ?_
                        rotate_left
                        · intro w' s0
                          go_simp
                          with_reducible rfl
                        rotate_left
                        · simp only [Act.put, List.setIfInBounds_toArray, List.set_cons_zero, List.set_cons_succ, i64_w, i32_w]
                          rfl
                        refine pure_ (i := 15) (N := some 54) (v := ?_) (a' := ?_) #[true, true, true, true, true, true, true, true, true, true, true, true, true, true, true, true, false, false] rfl rfl (any_of HT_.out (by kernel_rfl)) (fun _ _ _ h => h) (Or.inl ⟨by rfl, ?_⟩) ?_ ?_
                        rotate_left
                        · intro w'
                          go_simp
                          with_reducible rfl
                        rotate_left
                        · simp only [Act.put, List.setIfInBounds_toArray, List.set_cons_zero, List.set_cons_succ, i64_w, i32_w]
                          rfl
                        refine pure_ (i := 16) (N := some 55) (v := ?_) (a' := ?_) #[true, true, true, true, true, true, true, true, true, true, true, true, true, true, true, true, true, false] rfl rfl (any_of HT_.out (by kernel_rfl)) (fun _ _ _ h => h) (Or.inl ⟨by rfl, ?_⟩) ?_ ?_
                        rotate_left
                        · intro w'
                          go_simp
                          with_reducible rfl
                        rotate_left
                        · simp only [Act.put, List.setIfInBounds_toArray, List.set_cons_zero, List.set_cons_succ, i64_w, i32_w]
                          rfl
                        refine last_ (i := 17) (N := none) #[true, true, true, true, true, true, true, true, true, true, true, true, true, true, true, true, true, true] rfl rfl (one_of HT_.out (by kernel_rfl)) (by decide) (fun K hK => ?_)
                        refine skip_ (w1 := ?_) (by rfl) rfl ?_ ?_
                        rotate_left
                        · go_simp
                          rfl
                        refine hK.out _ _ ?_
                        clear hK K
                        refine done_ (done_of HT_.out (by kernel_rfl)) ?_
                        try go_wp2
                        go_roundg k2
                        case measure => have := HJ4.out; have := HK2.out; omega
                        case rel => exact ⟨(y194), (wrap64 (x10_2 + 1)), (by first | rfl | (simp; done) | (simp [*]; done)), H', ⟨by have := HJ4.out; have := HK2.out; omega⟩, ⟨by (with_reducible repeat (first | apply Kd.R_alloc | apply Kd.R_drewN | apply Kd.R_drew)); exact HQ26.out⟩, ⟨by repeat (first | (with_reducible first | exact HB.out | apply below_alloc | apply pw_below_drewN | apply below_drew1 | refine below_set ?_ GB23.out) | exact HB.out)⟩⟩
                      · rw [if_neg c21] at H
                        exact absurd H (by simp)
                    · rw [if_neg c19] at H
                      exact absurd H (by simp)
                  · rw [if_neg c18] at H
                    exact absurd H (by simp)
                · rw [if_neg c16] at H
                  have c16b0 : decide (x10_2 < 4) = false := decide_eq_false c16
                  clear c16
                  obtain ⟨y195, hy195⟩ : ∃ y_ : List Int, y_ = (([] : List Int)) := ⟨_, rfl⟩
                  replace H : (if y195.length + l0.length < 140737488355328 then ((some (y195 ++ l0 : List Int)).bind fun y198 => (if 0 ≤ (Int.tmod (wrap64 (a1)) (wrap64 ((l0.length : Int) - 3))) then (if (Int.tmod (wrap64 (a1)) (wrap64 ((l0.length : Int) - 3))) < (y198.length : Int) then (if t186 = true then ((crc_Word.f x9_2).bind fun t203 => ((crc_Word.f l0).bind fun t204 => (if t203 = t204 then (none) else ((crc_Byte.f (y198.set ((Int.tmod (wrap64 (a1)) (wrap64 ((l0.length : Int) - 3))) : Int).toNat (Go.bits .xor .u8 (rd y198 (Int.tmod (wrap64 (a1)) (wrap64 ((l0.length : Int) - 3)))) ((((Int.tmod a2 255) + 1) % 4294967296) % 256)))).bind fun t205 => ((crc_Byte.f l0).bind fun t206 => (if t205 = t206 then (none) else (some true))))))) else (none)) else (none)) else (none))) else (none)) = some r := by first | (rw [hy195]; with_reducible exact H) | (have H2_ := (Option.bind_some _ _).symm.trans H; rw [hy195]; with_reducible exact H2_) | (have H2_ := (Option.bind_some _ _).symm.trans H; with_reducible exact H2_) | with_reducible exact H | (rw [hy195]; exact H) | exact H
                  have Ny195 := Aside0.mk hy195
                  clear hy195
                  by_cases c27 : y195.length + l0.length < 140737488355328
                  · rw [if_pos c27] at H
                    have LMc27 := Aside0.mk c27
                    clear c27
                    obtain ⟨y198, hy198⟩ : ∃ y_ : List Int, y_ = (y195 ++ l0) := ⟨_, rfl⟩
                    replace H : (if 0 ≤ (Int.tmod (wrap64 (a1)) (wrap64 ((l0.length : Int) - 3))) then (if (Int.tmod (wrap64 (a1)) (wrap64 ((l0.length : Int) - 3))) < (y198.length : Int) then (if t186 = true then ((crc_Word.f x9_2).bind fun t203 => ((crc_Word.f l0).bind fun t204 => (if t203 = t204 then (none) else ((crc_Byte.f (y198.set ((Int.tmod (wrap64 (a1)) (wrap64 ((l0.length : Int) - 3))) : Int).toNat (Go.bits .xor .u8 (rd y198 (Int.tmod (wrap64 (a1)) (wrap64 ((l0.length : Int) - 3)))) ((((Int.tmod a2 255) + 1) % 4294967296) % 256)))).bind fun t205 => ((crc_Byte.f l0).bind fun t206 => (if t205 = t206 then (none) else (some true))))))) else (none)) else (none)) else (none)) = some r := by first | (rw [hy198]; with_reducible exact H) | (have H2_ := (Option.bind_some _ _).symm.trans H; rw [hy198]; with_reducible exact H2_) | (have H2_ := (Option.bind_some _ _).symm.trans H; with_reducible exact H2_) | with_reducible exact H | (rw [hy198]; exact H) | exact H
                    have Ny198 := Aside0.mk hy198
                    clear hy198
                    obtain ⟨ji28, hji28⟩ : ∃ j_ : Int, (Int.tmod (wrap64 (a1)) (wrap64 ((l0.length : Int) - 3))) = j_ := ⟨_, rfl⟩
                    replace H : (if 0 ≤ (ji28) then (if (ji28) < (y198.length : Int) then (if t186 = true then ((crc_Word.f x9_2).bind fun t203 => ((crc_Word.f l0).bind fun t204 => (if t203 = t204 then (none) else ((crc_Byte.f (y198.set ((ji28) : Int).toNat (Go.bits .xor .u8 (rd y198 (ji28)) ((((Int.tmod a2 255) + 1) % 4294967296) % 256)))).bind fun t205 => ((crc_Byte.f l0).bind fun t206 => (if t205 = t206 then (none) else (some true))))))) else (none)) else (none)) else (none)) = some r := by first | (rw [hji28] at H; exact H) | (simp only [hji28] at H ⊢; exact H)
                    by_cases c29 : 0 ≤ (ji28)
                    · rw [if_pos c29] at H
                      have c29b0 : decide (0 ≤ (ji28)) = true := decide_eq_true c29
                      clear c29
                      by_cases c30 : (ji28) < (y198.length : Int)
                      · rw [if_pos c30] at H
                        have c30b0 : decide ((ji28) < (y198.length : Int)) = true := decide_eq_true c30
                        clear c30
                        obtain ⟨y202, hy202⟩ : ∃ y_ : List Int, y_ = (y198.set ((ji28) : Int).toNat (Go.bits .xor .u8 (rd y198 (ji28)) ((((Int.tmod a2 255) + 1) % 4294967296) % 256))) := ⟨_, rfl⟩
                        replace H : (if t186 = true then ((crc_Word.f x9_2).bind fun t203 => ((crc_Word.f l0).bind fun t204 => (if t203 = t204 then (none) else ((crc_Byte.f y202).bind fun t205 => ((crc_Byte.f l0).bind fun t206 => (if t205 = t206 then (none) else (some true))))))) else (none)) = some r := by first | (rw [hy202]; with_reducible exact H) | (have H2_ := (Option.bind_some _ _).symm.trans H; rw [hy202]; with_reducible exact H2_) | (have H2_ := (Option.bind_some _ _).symm.trans H; with_reducible exact H2_) | with_reducible exact H | (rw [hy202]; exact H) | exact H
                        have Ny202 := Aside0.mk hy202
                        clear hy202
                        by_cases c32 : t186 = true
                        · subst c32
                          have H1 : ((crc_Word.f x9_2).bind fun t203 => ((crc_Word.f l0).bind fun t204 => (if t203 = t204 then (none) else ((crc_Byte.f y202).bind fun t205 => ((crc_Byte.f l0).bind fun t206 => (if t205 = t206 then (none) else (some true))))))) = some r := by rw [if_pos rfl] at H; exact H
                          clear H
                          have H := H1
                          clear H1
                          replace H := Option.bind_eq_some_iff.mp H
                          obtain ⟨t203, A330, H⟩ := H
                          replace H : ((crc_Word.f l0).bind fun t204 => (if t203 = t204 then (none) else ((crc_Byte.f y202).bind fun t205 => ((crc_Byte.f l0).bind fun t206 => (if t205 = t206 then (none) else (some true)))))) = some r := H
                          have A33 := Aside0.mk A330
                          clear A330
                          replace H := Option.bind_eq_some_iff.mp H
                          obtain ⟨t204, A340, H⟩ := H
                          replace H : (if t203 = t204 then (none) else ((crc_Byte.f y202).bind fun t205 => ((crc_Byte.f l0).bind fun t206 => (if t205 = t206 then (none) else (some true))))) = some r := H
                          have A34 := Aside0.mk A340
                          clear A340
                          by_cases c35 : t203 = t204
                          · rw [if_pos c35] at H
                            exact absurd H (by simp)
                          · rw [if_neg c35] at H
                            have c35b0 : (t203 == t204) = false := beq_eq_false_iff_ne.mpr c35
                            have c35b1 : (t203 != t204) = true := bne_iff_ne.mpr c35
                            replace H := Option.bind_eq_some_iff.mp H
                            obtain ⟨t205, A360, H⟩ := H
                            replace H : ((crc_Byte.f l0).bind fun t206 => (if t205 = t206 then (none) else (some true))) = some r := H
                            have A36 := Aside0.mk A360
                            clear A360
                            replace H := Option.bind_eq_some_iff.mp H
                            obtain ⟨t206, A370, H⟩ := H
                            replace H : (if t205 = t206 then (none) else (some true)) = some r := H
                            have A37 := Aside0.mk A370
                            clear A370
                            by_cases c38 : t205 = t206
                            · rw [if_pos c38] at H
                              exact absurd H (by simp)
                            · rw [if_neg c38] at H
                              have c38b0 : (t205 == t206) = false := beq_eq_false_iff_ne.mpr c38
                              have c38b1 : (t205 != t206) = true := bne_iff_ne.mpr c38
                              obtain rfl := Option.some.inj H
                              go_wp2_with (first | ((with_reducible refine gate_dst (N := 56) rfl ?_); (try (refine gate_guard (by rfl) ?_; dsimp only)); refine Kd.R_lit (Kd.int .u8) _ 5 ?hg (N := 56) ?hd (xs := ([] : List Int)) (inner := []) (ok := fun _ => True) (okp := fun _ => True) ?hr ?hp (fun _ hk => hk) trivial (Below.refl _ _) (Nat.le_refl _) (by simp) ?_; (case hd => rfl); (case hg => rfl); (case hr => first | (go_simp; done) | (go_simp; rfl)); (case hp => exact (Reps.none _ _)); intro v196 w39 ho40 hb hg_ hnew_; clear hg_ hnew_; (first | rw [← Ny195.out] at ho40 | (simp only [Int.reduceToNat] at ho40; rw [← Ny195.out] at ho40)); have n0_ := Aside0.mk (Kd.R_elder' (by (with_reducible repeat (first | apply Kd.R_alloc | apply Kd.R_drewN | apply Kd.R_drew)); exact HO_9.out) (Kd.R_base ho40) hb); have n1_ := Aside0.mk (Kd.R_lower (Kd.R_new' ho40 (Kd.R_lt (by (with_reducible repeat (first | apply Kd.R_alloc | apply Kd.R_drewN | apply Kd.R_drew)); exact HO_9.out))) (below_size (by repeat (first | (with_reducible first | exact HB.out | apply below_alloc | apply pw_below_drewN | apply below_drew1) | exact HB.out)))); have n2_ := Aside0.mk (below_step (by repeat (first | (with_reducible first | exact HB.out | apply below_alloc | apply pw_below_drewN | apply below_drew1) | exact HB.out)) hb); clear HO_9; clear HB; have HO_9 := n0_; have HO197 := n1_; have HB := n2_; clear n0_ n1_ n2_; clear hb ho40) | ((with_reducible refine gate_builtin (b := .append) (xs := #[.tmp 56, .tmp 57]) rfl ?_); (try (refine gate_guard (by rfl) ?_; dsimp only)); at_builtin; refine Kd.R_append_rows (Kd.int .u8) (w0 := w) w.heap.size rfl (.tmp 56) (.tmp 57) 23 5 (.int .u8 0) 1 rfl Try.underlying23 info5 rfl (by decide) (by omega) v196 y195 l0 _ _ _ (fun k_ => some k_ ≠ (v191 : Value).ownBlock) (fun _ => False) rfl rfl ?aO ?aR (fun _ _ h => h) (fun _ h => h.elim) ?aF ?aB ?aS ?aL ?_; (case aR => repeat (first | exact (Kd.C_below HR0.out HB.out) | (with_reducible refine Kd.C_alloc ?_ _) | (with_reducible refine Kd.C_drewN ?_ _) | (with_reducible refine Kd.C_drew ?_))); (case aB => exact (by repeat (first | (with_reducible first | exact HB.out | apply below_alloc | apply pw_below_drewN | apply below_drew1) | exact HB.out))); (case aF => exact (fun k_ hk => Kd.fresh' (Kd.R_lt (by (with_reducible repeat (first | apply Kd.R_alloc | apply Kd.R_drewN | apply Kd.R_drew)); exact HO_9.out)) k_ hk)); (case aO => exact (by (with_reducible repeat (first | apply Kd.R_alloc | apply Kd.R_drewN | apply Kd.R_drew)); exact Kd.R_mono HO197.out (fun _ hk => hk.2))); (case aS => exact (below_size (by repeat (first | (with_reducible first | exact HB.out | apply below_alloc | apply pw_below_drewN | apply below_drew1) | exact HB.out)))); (case aL => have := LMc27.out; omega); intro v199 w41 ho hb hg hat; rw [← Ny198.out] at ho; have n0_ := Aside0.mk (Kd.R_after (ok := (fun _ => True)) (by (with_reducible repeat (first | apply Kd.R_alloc | apply Kd.R_drewN | apply Kd.R_drew)); exact HO_9.out) hg hat); have n1_ := Aside0.mk (hb); have n2_ := Aside0.mk (ho); clear HO_9; clear HB; clear HO197; have HO_9 := n0_; have HB := n1_; have HO200 := n2_; clear n0_ n1_ n2_; clear ho hb hg hat; obtain ⟨Ao42, co42, eo42⟩ := Kd.R_slice HO200.out; subst eo42; have p201 : 0 ≤ ((ji28) : Int) := of_decide_eq_true (by first | (with_reducible assumption) | assumption); have q201 : (ji28) < (y198.length : Int) := of_decide_eq_true (by first | (with_reducible assumption) | assumption); obtain ⟨ad201, e201, hx201_0⟩ := Kd.at_int (Kd.R_reads' HO200.out).2.2 (ji28) p201 q201; cases e201; replace p201 := eq_true p201; replace q201 := eq_true q201; have p31 : 0 ≤ ((ji28) : Int) := of_decide_eq_true (by first | (with_reducible assumption) | assumption); have q31 : ((ji28) : Int) < ((y198.length : Int) : Int) := of_decide_eq_true (by first | (with_reducible assumption) | assumption); obtain ⟨go31, co31, eo31, gb31, gl31, cl31, HG31⟩ := Kd.R_form HO200.out (by omega); (first | cases eo31 | (injection eo31 with ea_ en_ ec_; (first | subst ea_ | (injection ea_ with ea_; subst ea_)); subst ec_; clear en_)); have GB31 := Aside0.mk gb31; have GG31 := Aside0.mk HG31; clear gb31 gl31 HG31; (first | simp only [add_plain] at hx201_0 | skip); obtain ⟨hx31_0, hf31_0⟩ := Kd.R_celln 0 HO200.out ((ji28) : Int) p31 q31; replace p31 := eq_true p31; replace q31 := eq_true q31; obtain ⟨hy43_, hz43_⟩ := Kd.R_celln 0 HO200.out ((ji28) : Int) (of_decide_eq_true (by first | (with_reducible assumption) | assumption)) (of_decide_eq_true (by first | (with_reducible assumption) | assumption)); have HP43 := Kd.R_putg HO200.out ((ji28) : Int) (Go.bits .xor .u8 (rd y198 (ji28)) ((((Int.tmod a2 255) + 1) % 4294967296) % 256))) | ((with_reducible refine gate_store (t := 5) (p := 70) rfl ?_); refine store_event (t := 5) (p := 70) (v := ?vo_w44) (w1 := (w41.setCell ⟨go31, ((ji28) : Int).toNat, none⟩ (.int .u8 (Go.bits .xor .u8 (rd y198 (ji28)) ((((Int.tmod a2 255) + 1) % 4294967296) % 256))))) ?hg ?ho ?hn ?hr ?_; (case ho => rfl); (case hg => rfl); (case hn => rfl); (case hr => first | (go_simp; done) | (go_simp; rfl)); intro w44 hw; have hg : w41.grownBy w44 (some go31) := (by rw [hw]; exact HP43.2); have hp_ : Kd.R (Kd.int .u8) 5 w44 w.heap.size (fun k_ => some k_ ≠ (v191 : Value).ownBlock) (.slice (some ⟨go31, 0, none⟩) y198.length co42) y202 := (by rw [hw, Ny202.out]; exact HP43.1); clear HP43; have n0_ := Aside0.mk (Kd.R_after (v := (.slice (some ⟨go31, 0, none⟩) y198.length co42)) (v1 := (.slice (some ⟨go31, 0, none⟩) y198.length co42)) (ok := (fun _ => True)) (by (with_reducible repeat (first | apply Kd.R_alloc | apply Kd.R_drewN | apply Kd.R_drew)); exact HO_9.out) hg (.inl rfl)); have n1_ := Aside0.mk (hp_); have n2_ := Aside0.mk ((by rw [hw]; exact below_set (HB.out) GB31.out : Below w.heap.size w w44)); clear HO_9; clear HO200; clear HB; have HO_9 := n0_; have HO200 := n1_; have HB := n2_; clear n0_ n1_ n2_; clear hg hw hp_; obtain ⟨Ao45, co45, eo45⟩ := Kd.R_slice HO_9.out; subst eo45) | (go_at_call 16; (with_reducible refine (crc_Word.calls _ _ x9_2 t203 _ ?side1 ?side2 A33.out).mono ?_); (case side1 => repeat (first | exact (Kd.R_reads' HO_9.out).2.2 | (with_reducible refine Kd.C_alloc ?_ _) | (with_reducible refine Kd.C_drewN ?_ _) | (with_reducible refine Kd.C_drew ?_))); (case side2 => exact (Kd.R_reads' HO_9.out).2.1); rintro e w46 ⟨rfl, hb⟩; have n0_ := Aside0.mk (Kd.R_below (by (with_reducible repeat (first | apply Kd.R_alloc | apply Kd.R_drewN | apply Kd.R_drew)); exact HO_9.out) hb); have n1_ := Aside0.mk (Kd.R_below (by (with_reducible repeat (first | apply Kd.R_alloc | apply Kd.R_drewN | apply Kd.R_drew)); exact HO200.out) hb); have n2_ := Aside0.mk (below_step (by repeat (first | (with_reducible first | exact HB.out | apply below_alloc | apply pw_below_drewN | apply below_drew1) | exact HB.out)) hb); clear HO_9; clear HO200; clear HB; have HO_9 := n0_; have HO200 := n1_; have HB := n2_; clear n0_ n1_ n2_; (try clear hb); (try clear hb2); (try clear hk); (try clear hi)) | (go_at_call 16; (with_reducible refine (crc_Word.calls _ _ l0 t204 _ ?side1 ?side2 A34.out).mono ?_); (case side1 => repeat (first | exact (Kd.C_below HR0.out HB.out) | (with_reducible refine Kd.C_alloc ?_ _) | (with_reducible refine Kd.C_drewN ?_ _) | (with_reducible refine Kd.C_drew ?_))); (case side2 => exact HC0.out); rintro e w47 ⟨rfl, hb⟩; have n0_ := Aside0.mk (Kd.R_below (by (with_reducible repeat (first | apply Kd.R_alloc | apply Kd.R_drewN | apply Kd.R_drew)); exact HO_9.out) hb); have n1_ := Aside0.mk (Kd.R_below (by (with_reducible repeat (first | apply Kd.R_alloc | apply Kd.R_drewN | apply Kd.R_drew)); exact HO200.out) hb); have n2_ := Aside0.mk (below_step (by repeat (first | (with_reducible first | exact HB.out | apply below_alloc | apply pw_below_drewN | apply below_drew1) | exact HB.out)) hb); clear HO_9; clear HO200; clear HB; have HO_9 := n0_; have HO200 := n1_; have HB := n2_; clear n0_ n1_ n2_; (try clear hb); (try clear hb2); (try clear hk); (try clear hi)) | (go_at_call 14; refine calls_of_args (args' := #[.slice (some ⟨go31, 0, none⟩) y202.length co42]) (by first | (rw [show y202.length = y198.length from (Kd.R_reads' HO200.out).1.symm] <;> rfl) | rfl) ?_; (with_reducible refine (crc_Byte.calls _ _ y202 t205 _ ?side1 ?side2 A36.out).mono ?_); (case side1 => repeat (first | exact (Kd.R_reads' HO200.out).2.2 | (with_reducible refine Kd.C_alloc ?_ _) | (with_reducible refine Kd.C_drewN ?_ _) | (with_reducible refine Kd.C_drew ?_))); (case side2 => rw [show y202.length = y198.length from (Kd.R_reads' HO200.out).1.symm]; exact (Kd.R_reads' HO200.out).2.1); rintro e w48 ⟨rfl, hb⟩; have n0_ := Aside0.mk (Kd.R_below (by (with_reducible repeat (first | apply Kd.R_alloc | apply Kd.R_drewN | apply Kd.R_drew)); exact HO_9.out) hb); have n1_ := Aside0.mk (Kd.R_below (by (with_reducible repeat (first | apply Kd.R_alloc | apply Kd.R_drewN | apply Kd.R_drew)); exact HO200.out) hb); have n2_ := Aside0.mk (below_step (by repeat (first | (with_reducible first | exact HB.out | apply below_alloc | apply pw_below_drewN | apply below_drew1) | exact HB.out)) hb); clear HO_9; clear HO200; clear HB; have HO_9 := n0_; have HO200 := n1_; have HB := n2_; clear n0_ n1_ n2_; (try clear hb); (try clear hb2); (try clear hk); (try clear hi)) | (go_at_call 14; (with_reducible refine (crc_Byte.calls _ _ l0 t206 _ ?side1 ?side2 A37.out).mono ?_); (case side1 => repeat (first | exact (Kd.C_below HR0.out HB.out) | (with_reducible refine Kd.C_alloc ?_ _) | (with_reducible refine Kd.C_drewN ?_ _) | (with_reducible refine Kd.C_drew ?_))); (case side2 => exact HC0.out); rintro e w49 ⟨rfl, hb⟩; have n0_ := Aside0.mk (Kd.R_below (by (with_reducible repeat (first | apply Kd.R_alloc | apply Kd.R_drewN | apply Kd.R_drew)); exact HO_9.out) hb); have n1_ := Aside0.mk (Kd.R_below (by (with_reducible repeat (first | apply Kd.R_alloc | apply Kd.R_drewN | apply Kd.R_drew)); exact HO200.out) hb); have n2_ := Aside0.mk (below_step (by repeat (first | (with_reducible first | exact HB.out | apply below_alloc | apply pw_below_drewN | apply below_drew1) | exact HB.out)) hb); clear HO_9; clear HO200; clear HB; have HO_9 := n0_; have HO200 := n1_; have HB := n2_; clear n0_ n1_ n2_; (try clear hb); (try clear hb2); (try clear hk); (try clear hi)))
                              go_ret
                              exact ⟨by first | rfl | (simp [errW_none, errW_some] <;> rfl) | (simp only [← hji28]; first | rfl | (simp [errW_none, errW_some] <;> rfl)) | (simp [*, errW_none, errW_some] <;> rfl), by repeat (first | (with_reducible first | exact HB.out | apply below_alloc | apply pw_below_drewN | apply below_drew1) | exact HB.out)⟩
                        · replace c32 := Bool.eq_false_iff.mpr c32
                          subst c32
                          have H1 : (none) = some r := by rw [if_neg (show ¬ (false = true) by decide)] at H; exact H
                          clear H
                          have H := H1
                          clear H1
                          exact absurd H (by simp)
                      · rw [if_neg c30] at H
                        exact absurd H (by simp)
                    · rw [if_neg c29] at H
                      exact absurd H (by simp)
                  · rw [if_neg c27] at H
                    exact absurd H (by simp)
          · rw [if_neg c12] at H
            exact absurd H (by simp)

/-- THE ONE PURE STATEMENT of phaetonlaw02_CrcBytes: yours. -/
def phaetonlaw02_CrcBytes.Pure : Prop := ∀ (l0 : List Int) (a1 : Int) (a2 : Int), l0.length ≤ maxLen → l0.length * 1 ≤ 140737488351232 → (∀ x ∈ l0, (Lit.int .u8 x).wf = true) → (Lit.int .u16 a1).wf = true → (Lit.int .u32 a2).wf = true → ∃ k, phaetonlaw02_CrcBytes.f k l0 a1 a2 = some true
theorem phaetonlaw02_CrcBytes.walk (P : phaetonlaw02_CrcBytes.Pure) (a0 : Option Addr) (len0 cap0 : Nat) (z0 : List Int) (a1 : Int) (a2 : Int) (w : World) (w0 : (a0 = none ∧ len0 = 0 ∧ cap0 = 0 ∧ z0 = []) ∨ ∃ x, a0 = some x ∧ len0 ≤ cap0 ∧ cap0 ≤ maxLen ∧ z0.length = cap0 ∧ (∀ i, i < z0.length → w.cell? (x.add i) = some (.int .u8 (z0.getD i 0))) ∧ ∀ n ∈ z0, (Lit.int .u8 n).wf = true) (y0 : len0 * 1 ≤ 140737488351232) (w1 : (Lit.int .u16 a1).wf = true) (w2 : (Lit.int .u32 a2).wf = true) :
    Calls Try.prog 6 #[.slice a0 len0 cap0, .int .u16 a1, .int .u32 a2] w fun e w' => e = .returned (.bool true) ∧ Below w.heap.size w w' := by
  obtain ⟨l0, rfl, hr0, hm0, hw0, hc0⟩ := ReadsInt.ofRowC w0
  obtain ⟨k, h⟩ := P l0 a1 a2 hm0 y0 hw0 w1 w2
  refine (phaetonlaw02_CrcBytes.calls k _ _ l0 a1 a2 true w (Kd.C_of_reads (d := (0 : Int)) (h1 := fun _ => rfl) hr0) hc0 h).mono ?_
  rintro e w' ⟨rfl, hd⟩
  exact ⟨rfl, hd⟩

end Go.Proofs.Ytonffeckadmlcaa.Px

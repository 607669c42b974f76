-- Written by myprint.py, a program of this session's, over the kit's print.py; not a text of print.sh's own.
import Derived.Test.YtfgbcpdlhdgofaaPx0
import Derived.Test.YtfgbcpdlhdgofaaPx1
namespace Go.Proofs.Ytfgbcpdlhdgofaa.Px
open Go.RowKit Go.Proofs.YtfgbcpdlhdgofaaW.PrintWords Go.Proofs.YtfgbcpdlhdgofaaW.PrintLast Go.Proofs.YtfgbcpdlhdgofaaW.PrintMore
attribute [local go_sem] max2_int min2_int max_two min_two max_three min_three max_four min_four   -- for this text's walks alone
set_option linter.unusedVariables false
set_option linter.unusedSimpArgs false

/-! ### image_Seal: function 20 -/
def image_Seal.f (k : Nat) (l0 : List Int) (a1 : Int) : Option (Int) := (image_may.f a1).bind fun t140 => (if t140 = true then ((image_seal.f k l0 ([] : List Int) a1).bind fun t141 => (some t141)) else (some 0))
theorem image_Seal.mono : ∀ a0 a1 k, LeO (image_Seal.f k a0 a1) (image_Seal.f (k + 1) a0 a1) := by
  intro a0 a1 k
  unfold image_Seal.f
  repeat' first
      | (with_reducible exact image_seal.mono _ _ _ _)
      | (with_reducible exact LeO.refl _)
      | (with_reducible exact LeO.none _)
      | (with_reducible refine LeO.ite ?_ ?_)
      | (with_reducible refine LeO.bind ?_ (fun _ => ?_))
      | exact image_seal.mono _ _ _ _
      | exact LeO.none _
      | refine LeO.ite ?_ ?_
      | refine LeO.bind ?_ (fun _ => ?_)
set_option maxHeartbeats 8000000 in
set_option maxRecDepth 100000 in
theorem image_Seal.calls (k : Nat) (A0 : Option Addr) (c0 : Nat) (l0 : List Int) (a1 : Int) (r : Int) (w : World) (hr0 : Kd.C (Kd.int .u8) w A0 l0.length l0) (hc0 : l0.length ≤ c0) (h : image_Seal.f k l0 a1 = some r) :
    Calls Try.prog 20 #[.slice A0 l0.length c0, .int .i64 a1] w fun e w' => e = .returned (.int .i64 r) ∧ Below w.heap.size w w' := by
  have HR0 := Aside0.mk hr0
  have HC0 := Aside0.mk hc0
  clear hr0 hc0
  have HB := Aside0.mk (Below.refl w.heap.size w)
  have H : ((image_may.f a1).bind fun t140 => (if t140 = true then ((image_seal.f k l0 ([] : List Int) a1).bind fun t141 => (some t141)) else (some 0))) = some r := h
  clear h
  replace H := Option.bind_eq_some_iff.mp H
  obtain ⟨t140, A30, H⟩ := H
  replace H : (if t140 = true then ((image_seal.f k l0 ([] : List Int) a1).bind fun t141 => (some t141)) else (some 0)) = some r := H
  have A3 := Aside0.mk A30
  clear A30
  by_cases c4 : t140 = true
  · subst c4
    have H1 : ((image_seal.f k l0 ([] : List Int) a1).bind fun t141 => (some t141)) = some r := by rw [if_pos rfl] at H; exact H
    clear H
    have H := H1
    clear H1
    replace H := Option.bind_eq_some_iff.mp H
    obtain ⟨t141, A50, H⟩ := H
    replace H : (some t141) = some r := H
    have A5 := Aside0.mk A50
    clear A50
    obtain rfl := Option.some.inj H
    go_enter Try.func20, Try.ntmps20
    go_wp2_with (first | ((with_reducible refine gate_callee (f := 27) rfl ?_); refine goesL_ (some 6) rfl rfl Try.func27 (by kernel_rfl) rfl #[.int .i64 a1] rfl (by (try simp only [List.map_toArray, List.map_cons, List.map_nil]); first | done | rfl | (simp only [List.length_drop, List.length_take]; rfl)) ?_; (with_reducible refine (image_may.calls a1 true _ A3.out).mono ?_); rintro e w' ⟨rfl, ⟨nd, rfl⟩⟩; refine ⟨_, rfl, ?_⟩) | ((with_reducible refine gate_callee (f := 30) rfl ?_); refine goesL_ (some 10) rfl rfl Try.func30 (by kernel_rfl) rfl #[.slice A0 l0.length c0, .slice none 0 0, .int .i64 a1] rfl (by (try simp only [List.map_toArray, List.map_cons, List.map_nil]); first | done | rfl | (simp only [List.length_drop, List.length_take]; rfl)) ?_; (refine (image_seal.calls k _ _ l0 _ _ ([] : List Int) a1 t141 _ ?side1 ?side2 ?side3 ?side4 A5.out).mono ?_); (case side1 => repeat (first | exact HR0.out | (with_reducible refine Kd.C_alloc ?_ _) | (with_reducible refine Kd.C_drewN ?_ _) | (with_reducible refine Kd.C_drew ?_))); (case side2 => exact HC0.out); (case side3 => exact Kd.C_nil _ _); (case side4 => exact Nat.le_refl _); rintro e w6 ⟨rfl, hb⟩; refine ⟨_, rfl, ?_⟩; have n0_ := Aside0.mk (below_step (by repeat (first | (with_reducible first | exact HB.out | apply below_alloc | apply pw_below_drewN | apply below_drew1) | exact HB.out)) hb); clear HB; have HB := n0_; clear n0_; (try clear hb); (try clear hb2); (try clear hk); (try clear hi)))
    go_ret
    exact ⟨by first | rfl | (simp [errW_none, errW_some] <;> rfl) | (simp [*, errW_none, errW_some] <;> rfl), by repeat (first | (with_reducible first | exact HB.out | apply below_alloc | apply pw_below_drewN | apply below_drew1) | exact HB.out)⟩
  · replace c4 := Bool.eq_false_iff.mpr c4
    subst c4
    have H1 : (some 0) = some r := by rw [if_neg (show ¬ (false = true) by decide)] at H; exact H
    clear H
    have H := H1
    clear H1
    obtain rfl := Option.some.inj H
    go_enter Try.func20, Try.ntmps20
    go_wp2_with (first | ((with_reducible refine gate_callee (f := 27) rfl ?_); refine goesL_ (some 6) rfl rfl Try.func27 (by kernel_rfl) rfl #[.int .i64 a1] rfl (by (try simp only [List.map_toArray, List.map_cons, List.map_nil]); first | done | rfl | (simp only [List.length_drop, List.length_take]; rfl)) ?_; (with_reducible refine (image_may.calls a1 false _ A3.out).mono ?_); rintro e w' ⟨rfl, ⟨nd, rfl⟩⟩; refine ⟨_, rfl, ?_⟩))
    go_ret
    exact ⟨by first | rfl | (simp [errW_none, errW_some] <;> rfl) | (simp [*, errW_none, errW_some] <;> rfl), by repeat (first | (with_reducible first | exact HB.out | apply below_alloc | apply pw_below_drewN | apply below_drew1) | exact HB.out)⟩

/-! ### phaetonref24_May: function 25 -/
def phaetonref24_May.f (a0 : Int) : Option (Bool) := if a0 ≥ 0 then (some (decide (a0 ≤ 4294967295))) else (some false)
set_option maxHeartbeats 8000000 in
set_option maxRecDepth 100000 in
theorem phaetonref24_May.calls (a0 : Int) (r : Bool) (w : World) (h : phaetonref24_May.f a0 = some r) :
    Calls Try.prog 25 #[.int .i64 a0] w fun e w' => e = .returned (.bool r) ∧ Drawn0 w w' := by
  have H : (if a0 ≥ 0 then (some (decide (a0 ≤ 4294967295))) else (some false)) = some r := h
  clear h
  by_cases c2 : a0 ≥ 0
  · rw [if_pos c2] at H
    have c2b0 : decide (0 ≤ a0) = true := decide_eq_true c2
    clear c2
    obtain rfl := Option.some.inj H
    go_enter Try.func25, Try.ntmps25
    go_wp2
    go_ret
    exact ⟨by first | rfl | (simp; done) | (simp [*]; done), by repeat (first | exact Drawn0.refl _ | apply Drawn0.step)⟩
  · rw [if_neg c2] at H
    have c2b0 : decide (0 ≤ a0) = false := decide_eq_false c2
    clear c2
    obtain rfl := Option.some.inj H
    go_enter Try.func25, Try.ntmps25
    go_wp2
    go_ret
    exact ⟨by first | rfl | (simp; done) | (simp [*]; done), by repeat (first | exact Drawn0.refl _ | apply Drawn0.step)⟩

/-! ### phaetonref24_Four: function 32 -/
def phaetonref24_Four.f (a0 : Int) : Option (List Int) := some (([(wrap64 (Int.tdiv a0 16777216)) % 256, (Int.tmod (wrap64 (Int.tdiv a0 65536)) 256) % 256, (Int.tmod (wrap64 (Int.tdiv a0 256)) 256) % 256, (Int.tmod a0 256) % 256] : List Int))
set_option maxHeartbeats 8000000 in
set_option maxRecDepth 100000 in
theorem phaetonref24_Four.calls (a0 : Int) (r : List Int) (w : World) (h : phaetonref24_Four.f a0 = some r) :
    Calls Try.prog 32 #[.int .i64 a0] w fun e w' => ∃ v0_ : Value, e = .returned (v0_) ∧ Kd.R (Kd.int .u8) 5 w' w.heap.size (fun _ => True) v0_ r ∧ Below w.heap.size w w' := by
  have HB := Aside0.mk (Below.refl w.heap.size w)
  have H : (some (([(wrap64 (Int.tdiv a0 16777216)) % 256, (Int.tmod (wrap64 (Int.tdiv a0 65536)) 256) % 256, (Int.tmod (wrap64 (Int.tdiv a0 256)) 256) % 256, (Int.tmod a0 256) % 256] : List Int))) = some r := h
  clear h
  obtain ⟨y142, hy142⟩ : ∃ y_ : List Int, y_ = (([(wrap64 (Int.tdiv a0 16777216)) % 256, (Int.tmod (wrap64 (Int.tdiv a0 65536)) 256) % 256, (Int.tmod (wrap64 (Int.tdiv a0 256)) 256) % 256, (Int.tmod a0 256) % 256] : List Int)) := ⟨_, rfl⟩
  replace H : (some y142) = some r := by first | (rw [hy142]; with_reducible exact H) | (have H2_ := (Option.bind_some _ _).symm.trans H; rw [hy142]; with_reducible exact H2_) | (have H2_ := (Option.bind_some _ _).symm.trans H; with_reducible exact H2_) | with_reducible exact H | (rw [hy142]; exact H) | exact H
  have Ny142 := Aside0.mk hy142
  clear hy142
  obtain rfl := Option.some.inj H
  go_enter Try.func32, Try.ntmps32
  go_wp2_with (first | ((with_reducible refine gate_dst (N := 17) rfl ?_); refine Kd.R_lit (Kd.int .u8) _ 5 ?hg (N := 17) ?hd (xs := ([(wrap64 (Int.tdiv a0 16777216)) % 256, (Int.tmod (wrap64 (Int.tdiv a0 65536)) 256) % 256, (Int.tmod (wrap64 (Int.tdiv a0 256)) 256) % 256, (Int.tmod a0 256) % 256] : List Int)) (inner := [.int .u8 ((wrap64 (Int.tdiv a0 16777216)) % 256), .int .u8 ((Int.tmod (wrap64 (Int.tdiv a0 65536)) 256) % 256), .int .u8 ((Int.tmod (wrap64 (Int.tdiv a0 256)) 256) % 256), .int .u8 ((Int.tmod a0 256) % 256)]) (ok := fun _ => True) (okp := fun _ => True) ?hr ?hp (fun _ hk => hk) trivial (Below.refl _ _) (Nat.le_refl _) (by simp) ?_; (case hd => rfl); (case hg => rfl); (case hr => first | (go_simp; done) | (go_simp; rfl)); (case hp => exact (Reps.one (show Kd.M (Kd.int .u8) _ _ _ ((wrap64 (Int.tdiv a0 16777216)) % 256) [.int .u8 ((wrap64 (Int.tdiv a0 16777216)) % 256)] from rfl) (Reps.one (show Kd.M (Kd.int .u8) _ _ _ ((Int.tmod (wrap64 (Int.tdiv a0 65536)) 256) % 256) [.int .u8 ((Int.tmod (wrap64 (Int.tdiv a0 65536)) 256) % 256)] from rfl) (Reps.one (show Kd.M (Kd.int .u8) _ _ _ ((Int.tmod (wrap64 (Int.tdiv a0 256)) 256) % 256) [.int .u8 ((Int.tmod (wrap64 (Int.tdiv a0 256)) 256) % 256)] from rfl) (Reps.one (show Kd.M (Kd.int .u8) _ _ _ ((Int.tmod a0 256) % 256) [.int .u8 ((Int.tmod a0 256) % 256)] from rfl) (Reps.none _ _)))))); intro v143 w2 ho3 hb hg_ hnew_; clear hg_ hnew_; (first | rw [← Ny142.out] at ho3 | (simp only [Int.reduceToNat] at ho3; rw [← Ny142.out] at ho3)); have n0_ := Aside0.mk (Kd.R_lower ho3 (below_size (by repeat (first | (with_reducible first | exact HB.out | apply below_alloc | apply pw_below_drewN | apply below_drew1) | exact HB.out)))); have n1_ := Aside0.mk (below_step (by repeat (first | (with_reducible first | exact HB.out | apply below_alloc | apply pw_below_drewN | apply below_drew1) | exact HB.out)) hb); clear HB; have HO144 := n0_; have HB := n1_; clear n0_ n1_; clear hb ho3))
  go_ret
  exact ⟨_, by first | rfl | (simp [errW_none, errW_some] <;> rfl) | (simp [*, errW_none, errW_some] <;> rfl), by (with_reducible repeat (first | apply Kd.R_alloc | apply Kd.R_drewN | apply Kd.R_drew)); exact HO144.out, by repeat (first | (with_reducible first | exact HB.out | apply below_alloc | apply pw_below_drewN | apply below_drew1) | exact HB.out)⟩

/-! ### phaetonref02_More: function 37 -/
mutual
def phaetonref02_More.l0 : Nat → List Int → Int → Int → Option (Int)
  | 0, _, _, _ => none
  | k + 1, x1, x5, x6 => if x6 < (x1.length : Int) then (if 0 ≤ x6 then (phaetonref02_More.l1 k x1 (Go.bits .xor .u32 x5 ((rd x1 x6) % 4294967296)) x6 0) else (none)) else (some (wrap64 (Go.bits .xor .u32 IntKind.u32.max x5)))
def phaetonref02_More.l1 : Nat → List Int → Int → Int → Int → Option (Int)
  | 0, _, _, _, _ => none
  | k + 1, x1, x5, x6, x7 => if x7 < 8 then (if (Int.tmod x5 2) = 1 then (phaetonref02_More.l1 k x1 (Go.bits .xor .u32 (x5 / 2) 3988292384) x6 (wrap64 (x7 + 1))) else (phaetonref02_More.l1 k x1 (x5 / 2) x6 (wrap64 (x7 + 1)))) else (phaetonref02_More.l0 k x1 x5 (wrap64 (x6 + 1)))
end
def phaetonref02_More.f (k : Nat) (a0 : Int) (l1 : List Int) : Option (Int) := phaetonref02_More.l0 k l1 (Go.bits .xor .u32 IntKind.u32.max ((a0) % 4294967296)) 0
theorem phaetonref02_More.mono_l : ∀ k, (∀ y0 y1 y2, LeO (phaetonref02_More.l0 k y0 y1 y2) (phaetonref02_More.l0 (k + 1) y0 y1 y2)) ∧ (∀ y0 y1 y2 y3, LeO (phaetonref02_More.l1 k y0 y1 y2 y3) (phaetonref02_More.l1 (k + 1) y0 y1 y2 y3))
  | 0 => ⟨fun _ _ _ r h => by simp [phaetonref02_More.l0] at h, fun _ _ _ _ r h => by simp [phaetonref02_More.l1] at h⟩
  | k + 1 => by
    obtain ⟨ih0, ih1⟩ := phaetonref02_More.mono_l k
    refine ⟨?_, ?_⟩
    · intro y0 y1 y2
      unfold phaetonref02_More.l0
      repeat' first
      | (with_reducible exact ih0 _ _ _)
      | (with_reducible exact ih1 _ _ _ _)
      | (with_reducible exact LeO.refl _)
      | (with_reducible exact LeO.none _)
      | (with_reducible refine LeO.ite ?_ ?_)
      | (with_reducible refine LeO.bind ?_ (fun _ => ?_))
      | exact ih0 _ _ _
      | exact ih1 _ _ _ _
      | exact LeO.none _
      | refine LeO.ite ?_ ?_
      | refine LeO.bind ?_ (fun _ => ?_)
    · intro y0 y1 y2 y3
      unfold phaetonref02_More.l1
      repeat' first
      | (with_reducible exact ih0 _ _ _)
      | (with_reducible exact ih1 _ _ _ _)
      | (with_reducible exact LeO.refl _)
      | (with_reducible exact LeO.none _)
      | (with_reducible refine LeO.ite ?_ ?_)
      | (with_reducible refine LeO.bind ?_ (fun _ => ?_))
      | exact ih0 _ _ _
      | exact ih1 _ _ _ _
      | exact LeO.none _
      | refine LeO.ite ?_ ?_
      | refine LeO.bind ?_ (fun _ => ?_)
theorem phaetonref02_More.mono : ∀ a0 a1 k, LeO (phaetonref02_More.f k a0 a1) (phaetonref02_More.f (k + 1) a0 a1) := by
  intro a0 a1 k
  obtain ⟨ih0, ih1⟩ := phaetonref02_More.mono_l k
  unfold phaetonref02_More.f
  repeat' first
      | (with_reducible exact ih0 _ _ _)
      | (with_reducible exact ih1 _ _ _ _)
      | (with_reducible exact LeO.refl _)
      | (with_reducible exact LeO.none _)
      | (with_reducible refine LeO.ite ?_ ?_)
      | (with_reducible refine LeO.bind ?_ (fun _ => ?_))
      | exact ih0 _ _ _
      | exact ih1 _ _ _ _
      | exact LeO.none _
      | refine LeO.ite ?_ ?_
      | refine LeO.bind ?_ (fun _ => ?_)
set_option maxHeartbeats 8000000 in
set_option maxRecDepth 100000 in
theorem phaetonref02_More.calls (k : Nat) (a0 : Int) (A1 : Option Addr) (c1 : Nat) (l1 : List Int) (r : Int) (w : World) (hr1 : Kd.C (Kd.int .u8) w A1 l1.length l1) (hc1 : l1.length ≤ c1) (h : phaetonref02_More.f k a0 l1 = some r) :
    Calls Try.prog 37 #[.int .i64 a0, .slice A1 l1.length c1] w fun e w' => e = .returned (.int .i64 r) ∧ Drawn0 w w' := by
  have HR1 := Aside0.mk hr1
  have HC1 := Aside0.mk hc1
  clear hr1 hc1
  have H : (phaetonref02_More.l0 k l1 (Go.bits .xor .u32 IntKind.u32.max ((a0) % 4294967296)) 0) = some r := h
  clear h
  have H' := Aside0.mk H
  clear H
  go_enter Try.func37, Try.ntmps37
  go_wp2
  go_loopg [5, 6] k (fun kq v5 v6 w' => ∃ (x5_1 : Int) (x6_1 : Int), v5 = .int .u32 x5_1 ∧ v6 = .int .i64 x6_1 ∧ Aside0 (phaetonref02_More.l0 kq l1 x5_1 x6_1 = some r) ∧ Aside0 (kq ≤ k) ∧ Drawn0 w w')
  case atStart => exact ⟨(Go.bits .xor .u32 IntKind.u32.max ((a0) % 4294967296)), (0), (by first | rfl | (simp; done) | (simp [*]; done)), (by first | rfl | (simp; done) | (simp [*]; done)), H', ⟨Nat.le_refl _⟩, by repeat (first | exact Drawn0.refl _ | apply Drawn0.step)⟩
  case round =>
    clear H'
    try clear c1
    try clear p2
    obtain ⟨x5_1, x6_1, rfl, rfl, HA, HK1, ⟨m1, rfl⟩⟩ := hrel
    cases gk with
    | zero => exact absurd HA.out (by simp [phaetonref02_More.l0])
    | succ k1 =>
      have H := HA.out
      clear HA
      simp only [phaetonref02_More.l0] at H
      by_cases c3 : x6_1 < (l1.length : Int)
      · rw [if_pos c3] at H
        have c3b0 : decide (x6_1 < (l1.length : Int)) = true := decide_eq_true c3
        clear c3
        by_cases c4 : 0 ≤ x6_1
        · rw [if_pos c4] at H
          have c4b0 : decide (0 ≤ x6_1) = true := decide_eq_true c4
          clear c4
          have H' := Aside0.mk H
          clear H
          have p145 : 0 ≤ (x6_1 : Int) := of_decide_eq_true (by first | (with_reducible assumption) | assumption)
          have q145 : x6_1 < (l1.length : Int) := of_decide_eq_true (by first | (with_reducible assumption) | assumption)
          obtain ⟨ad145, e145, hx145_0⟩ := Kd.at_int HR1.out x6_1 p145 q145
          cases e145
          replace p145 := eq_true p145
          replace q145 := eq_true q145
          go_wp2
          go_loopg [5, 7] k1 (fun kq v5 v7 w' => ∃ (x5_2 : Int) (x7_2 : Int), v5 = .int .u32 x5_2 ∧ v7 = .int .i64 x7_2 ∧ Aside0 (phaetonref02_More.l1 kq l1 x5_2 x6_1 x7_2 = some r) ∧ Aside0 (kq ≤ k1) ∧ Drawn0 w w')
          case atStart => exact ⟨(Go.bits .xor .u32 x5_1 ((rd l1 x6_1) % 4294967296)), (0), (by first | rfl | (simp; done) | (simp [*]; done)), (by first | rfl | (simp; done) | (simp [*]; done)), H', ⟨Nat.le_refl _⟩, by repeat (first | exact Drawn0.refl _ | apply Drawn0.step)⟩
          case round =>
            clear H'
            try clear c1
            try clear p1
            try clear q1
            try clear hx1
            try clear p2
            try clear c3
            try clear c3b0
            try clear c4
            try clear c4b0
            try clear hx145_0
            try clear p145
            try clear p2
            try clear q145
            obtain ⟨x5_2, x7_2, rfl, rfl, HA, HK2, ⟨m2, rfl⟩⟩ := hrel
            cases gk with
            | zero => exact absurd HA.out (by simp [phaetonref02_More.l1])
            | succ k2 =>
              have H := HA.out
              clear HA
              simp only [phaetonref02_More.l1] at H
              by_cases c5 : x7_2 < 8
              · rw [if_pos c5] at H
                have c5b0 : decide (x7_2 < 8) = true := decide_eq_true c5
                clear c5
                by_cases c6 : (Int.tmod x5_2 2) = 1
                · rw [if_pos c6] at H
                  have c6b0 : ((Int.tmod x5_2 2) == 1) = true := beq_iff_eq.mpr c6
                  have c6b1 : ((Int.tmod x5_2 2) != 1) = false := bne_eq_false_iff_eq.mpr c6
                  clear c6
                  have H' := Aside0.mk H
                  clear H
                  go_wp2
                  go_roundg k2
                  case measure => have := HK1.out; have := HK2.out; omega
                  case rel => exact ⟨(Go.bits .xor .u32 (x5_2 / 2) 3988292384), (wrap64 (x7_2 + 1)), (by first | rfl | (simp; done) | (simp [*]; done)), (by first | rfl | (simp; done) | (simp [*]; done)), H', ⟨by have := HK1.out; have := HK2.out; omega⟩, by repeat (first | exact Drawn0.refl _ | apply Drawn0.step)⟩
                · rw [if_neg c6] at H
                  have c6b0 : ((Int.tmod x5_2 2) == 1) = false := beq_eq_false_iff_ne.mpr c6
                  have c6b1 : ((Int.tmod x5_2 2) != 1) = true := bne_iff_ne.mpr c6
                  have H' := Aside0.mk H
                  clear H
                  go_wp2
                  go_roundg k2
                  case measure => have := HK1.out; have := HK2.out; omega
                  case rel => exact ⟨(x5_2 / 2), (wrap64 (x7_2 + 1)), (by first | rfl | (simp; done) | (simp [*]; done)), (by first | rfl | (simp; done) | (simp [*]; done)), H', ⟨by have := HK1.out; have := HK2.out; omega⟩, by repeat (first | exact Drawn0.refl _ | apply Drawn0.step)⟩
              · rw [if_neg c5] at H
                have c5b0 : decide (x7_2 < 8) = false := decide_eq_false c5
                clear c5
                have H' := Aside0.mk H
                clear H
                go_wp2
                go_roundg k2
                case measure => have := HK1.out; have := HK2.out; omega
                case rel => exact ⟨(x5_2), (wrap64 (x6_1 + 1)), (by first | rfl | (simp; done) | (simp [*]; done)), (by first | rfl | (simp; done) | (simp [*]; done)), H', ⟨by have := HK1.out; have := HK2.out; omega⟩, by repeat (first | exact Drawn0.refl _ | apply Drawn0.step)⟩
        · rw [if_neg c4] at H
          exact absurd H (by simp)
      · rw [if_neg c3] at H
        have c3b0 : decide (x6_1 < (l1.length : Int)) = false := decide_eq_false c3
        clear c3
        obtain rfl := Option.some.inj H
        go_wp2
        go_ret
        exact ⟨by first | rfl | (simp; done) | (simp [*]; done), by repeat (first | exact Drawn0.refl _ | apply Drawn0.step)⟩

/-! ### phaetonref02_Word: function 34 -/
def phaetonref02_Word.f (k : Nat) (l0 : List Int) : Option (Int) := (phaetonref02_More.f k 0 l0).bind fun t146 => (some t146)
theorem phaetonref02_Word.mono : ∀ a0 k, LeO (phaetonref02_Word.f k a0) (phaetonref02_Word.f (k + 1) a0) := by
  intro a0 k
  unfold phaetonref02_Word.f
  repeat' first
      | (with_reducible exact phaetonref02_More.mono _ _ _)
      | (with_reducible exact LeO.refl _)
      | (with_reducible exact LeO.none _)
      | (with_reducible refine LeO.ite ?_ ?_)
      | (with_reducible refine LeO.bind ?_ (fun _ => ?_))
      | exact phaetonref02_More.mono _ _ _
      | exact LeO.none _
      | refine LeO.ite ?_ ?_
      | refine LeO.bind ?_ (fun _ => ?_)
set_option maxHeartbeats 8000000 in
set_option maxRecDepth 100000 in
theorem phaetonref02_Word.calls (k : Nat) (A0 : Option Addr) (c0 : Nat) (l0 : List Int) (r : Int) (w : World) (hr0 : Kd.C (Kd.int .u8) w A0 l0.length l0) (hc0 : l0.length ≤ c0) (h : phaetonref02_Word.f k l0 = some r) :
    Calls Try.prog 34 #[.slice A0 l0.length c0] w fun e w' => e = .returned (.int .i64 r) ∧ Drawn0 w w' := by
  have HR0 := Aside0.mk hr0
  have HC0 := Aside0.mk hc0
  clear hr0 hc0
  have H : ((phaetonref02_More.f k 0 l0).bind fun t146 => (some t146)) = some r := h
  clear h
  replace H := Option.bind_eq_some_iff.mp H
  obtain ⟨t146, A20, H⟩ := H
  replace H : (some t146) = some r := H
  have A2 := Aside0.mk A20
  clear A20
  obtain rfl := Option.some.inj H
  go_enter Try.func34, Try.ntmps34
  go_wp2_with (first | ((with_reducible refine gate_callee (f := 37) rfl ?_); refine goesL_ (some 4) rfl rfl Try.func37 (by kernel_rfl) rfl #[.int .i64 0, .slice A0 l0.length c0] rfl (by (try simp only [List.map_toArray, List.map_cons, List.map_nil]); first | done | rfl | (simp only [List.length_drop, List.length_take]; rfl)) ?_; (with_reducible refine (phaetonref02_More.calls k 0 _ _ l0 t146 _ ?side1 ?side2 A2.out).mono ?_); (case side1 => repeat (first | exact HR0.out | (with_reducible refine Kd.C_alloc ?_ _) | (with_reducible refine Kd.C_drewN ?_ _) | (with_reducible refine Kd.C_drew ?_))); (case side2 => exact HC0.out); rintro e w' ⟨rfl, ⟨nd, rfl⟩⟩; refine ⟨_, rfl, ?_⟩))
  go_ret
  exact ⟨by first | rfl | (simp; done) | (simp [*]; done), by repeat (first | exact Drawn0.refl _ | apply Drawn0.step)⟩

/-! ### phaetonref24_Seal: function 21 -/
def phaetonref24_Seal.f (k : Nat) (l0 : List Int) (a1 : Int) : Option (Int) := (phaetonref24_May.f a1).bind fun t147 => (if t147 = true then ((phaetonref24_Four.f a1).bind fun t148 => (if t148.length + l0.length < 140737488355328 then ((some (t148 ++ l0 : List Int)).bind fun y151 => ((phaetonref24_Four.f a1).bind fun t154 => (if y151.length + t154.length < 140737488355328 then ((phaetonref02_Word.f k (y151 ++ t154)).bind fun t160 => (some t160)) else (none)))) else (none))) else (some 0))
theorem phaetonref24_Seal.mono : ∀ a0 a1 k, LeO (phaetonref24_Seal.f k a0 a1) (phaetonref24_Seal.f (k + 1) a0 a1) := by
  intro a0 a1 k
  unfold phaetonref24_Seal.f
  repeat' first
      | (with_reducible exact phaetonref02_Word.mono _ _)
      | (with_reducible exact LeO.refl _)
      | (with_reducible exact LeO.none _)
      | (with_reducible refine LeO.ite ?_ ?_)
      | (with_reducible refine LeO.bind ?_ (fun _ => ?_))
      | exact phaetonref02_Word.mono _ _
      | exact LeO.none _
      | refine LeO.ite ?_ ?_
      | refine LeO.bind ?_ (fun _ => ?_)
set_option maxHeartbeats 8000000 in
set_option maxRecDepth 100000 in
theorem phaetonref24_Seal.calls (k : Nat) (A0 : Option Addr) (c0 : Nat) (l0 : List Int) (a1 : Int) (r : Int) (w : World) (hr0 : Kd.C (Kd.int .u8) w A0 l0.length l0) (hc0 : l0.length ≤ c0) (h : phaetonref24_Seal.f k l0 a1 = some r) :
    Calls Try.prog 21 #[.slice A0 l0.length c0, .int .i64 a1] w fun e w' => e = .returned (.int .i64 r) ∧ Below w.heap.size w w' := by
  have HR0 := Aside0.mk hr0
  have HC0 := Aside0.mk hc0
  clear hr0 hc0
  have HB := Aside0.mk (Below.refl w.heap.size w)
  have H : ((phaetonref24_May.f a1).bind fun t147 => (if t147 = true then ((phaetonref24_Four.f a1).bind fun t148 => (if t148.length + l0.length < 140737488355328 then ((some (t148 ++ l0 : List Int)).bind fun y151 => ((phaetonref24_Four.f a1).bind fun t154 => (if y151.length + t154.length < 140737488355328 then ((phaetonref02_Word.f k (y151 ++ t154)).bind fun t160 => (some t160)) else (none)))) else (none))) else (some 0))) = some r := h
  clear h
  replace H := Option.bind_eq_some_iff.mp H
  obtain ⟨t147, A30, H⟩ := H
  replace H : (if t147 = true then ((phaetonref24_Four.f a1).bind fun t148 => (if t148.length + l0.length < 140737488355328 then ((some (t148 ++ l0 : List Int)).bind fun y151 => ((phaetonref24_Four.f a1).bind fun t154 => (if y151.length + t154.length < 140737488355328 then ((phaetonref02_Word.f k (y151 ++ t154)).bind fun t160 => (some t160)) else (none)))) else (none))) else (some 0)) = some r := H
  have A3 := Aside0.mk A30
  clear A30
  by_cases c4 : t147 = true
  · subst c4
    have H1 : ((phaetonref24_Four.f a1).bind fun t148 => (if t148.length + l0.length < 140737488355328 then ((some (t148 ++ l0 : List Int)).bind fun y151 => ((phaetonref24_Four.f a1).bind fun t154 => (if y151.length + t154.length < 140737488355328 then ((phaetonref02_Word.f k (y151 ++ t154)).bind fun t160 => (some t160)) else (none)))) else (none))) = some r := by rw [if_pos rfl] at H; exact H
    clear H
    have H := H1
    clear H1
    replace H := Option.bind_eq_some_iff.mp H
    obtain ⟨t148, A50, H⟩ := H
    replace H : (if t148.length + l0.length < 140737488355328 then ((some (t148 ++ l0 : List Int)).bind fun y151 => ((phaetonref24_Four.f a1).bind fun t154 => (if y151.length + t154.length < 140737488355328 then ((phaetonref02_Word.f k (y151 ++ t154)).bind fun t160 => (some t160)) else (none)))) else (none)) = some r := H
    have A5 := Aside0.mk A50
    clear A50
    by_cases c6 : t148.length + l0.length < 140737488355328
    · rw [if_pos c6] at H
      have LMc6 := Aside0.mk c6
      clear c6
      obtain ⟨y151, hy151⟩ : ∃ y_ : List Int, y_ = (t148 ++ l0) := ⟨_, rfl⟩
      replace H : ((phaetonref24_Four.f a1).bind fun t154 => (if y151.length + t154.length < 140737488355328 then ((phaetonref02_Word.f k (y151 ++ t154)).bind fun t160 => (some t160)) else (none))) = some r := by first | (rw [hy151]; with_reducible exact H) | (have H2_ := (Option.bind_some _ _).symm.trans H; rw [hy151]; with_reducible exact H2_) | (have H2_ := (Option.bind_some _ _).symm.trans H; with_reducible exact H2_) | with_reducible exact H | (rw [hy151]; exact H) | exact H
      have Ny151 := Aside0.mk hy151
      clear hy151
      replace H := Option.bind_eq_some_iff.mp H
      obtain ⟨t154, A70, H⟩ := H
      replace H : (if y151.length + t154.length < 140737488355328 then ((phaetonref02_Word.f k (y151 ++ t154)).bind fun t160 => (some t160)) else (none)) = some r := H
      have A7 := Aside0.mk A70
      clear A70
      by_cases c8 : y151.length + t154.length < 140737488355328
      · rw [if_pos c8] at H
        have LMc8 := Aside0.mk c8
        clear c8
        obtain ⟨y157, hy157⟩ : ∃ y_ : List Int, y_ = (y151 ++ t154) := ⟨_, rfl⟩
        replace H : ((phaetonref02_Word.f k y157).bind fun t160 => (some t160)) = some r := by first | (rw [hy157]; with_reducible exact H) | (have H2_ := (Option.bind_some _ _).symm.trans H; rw [hy157]; with_reducible exact H2_) | (have H2_ := (Option.bind_some _ _).symm.trans H; with_reducible exact H2_) | with_reducible exact H | (rw [hy157]; exact H) | exact H
        have Ny157 := Aside0.mk hy157
        clear hy157
        replace H := Option.bind_eq_some_iff.mp H
        obtain ⟨t160, A90, H⟩ := H
        replace H : (some t160) = some r := H
        have A9 := Aside0.mk A90
        clear A90
        obtain rfl := Option.some.inj H
        go_enter Try.func21, Try.ntmps21
        go_wp2_with (first | ((with_reducible refine gate_callee (f := 25) rfl ?_); refine goesL_ (some 7) rfl rfl Try.func25 (by kernel_rfl) rfl #[.int .i64 a1] rfl (by (try simp only [List.map_toArray, List.map_cons, List.map_nil]); first | done | rfl | (simp only [List.length_drop, List.length_take]; rfl)) ?_; (with_reducible refine (phaetonref24_May.calls a1 true _ A3.out).mono ?_); rintro e w' ⟨rfl, ⟨nd, rfl⟩⟩; refine ⟨_, rfl, ?_⟩) | ((with_reducible refine gate_callee (f := 32) rfl ?_); refine goesL_ (some 10) rfl rfl Try.func32 (by kernel_rfl) rfl #[.int .i64 a1] rfl (by (try simp only [List.map_toArray, List.map_cons, List.map_nil]); first | done | rfl | (simp only [List.length_drop, List.length_take]; rfl)) ?_; (with_reducible refine (phaetonref24_Four.calls a1 t148 _ A5.out).mono ?_); rintro e w10 ⟨v149, rfl, ho0, hb⟩; refine ⟨_, rfl, ?_⟩; have n0_ := Aside0.mk (Kd.R_lower ho0 (below_size (by repeat (first | (with_reducible first | exact HB.out | apply below_alloc | apply pw_below_drewN | apply below_drew1) | exact HB.out)))); have n1_ := Aside0.mk (below_step (by repeat (first | (with_reducible first | exact HB.out | apply below_alloc | apply pw_below_drewN | apply below_drew1) | exact HB.out)) hb); clear HB; have HO150 := n0_; have HB := n1_; clear n0_ n1_; (try clear hb); (try clear hb2); (try clear hk); (try clear hi); (try clear ho0)) | ((with_reducible refine gate_builtin (b := .append) (xs := #[.tmp 11, .tmp 12]) rfl ?_); at_builtin; refine Kd.R_append_rows (Kd.int .u8) (w0 := w) w.heap.size rfl (.tmp 11) (.tmp 12) 22 5 (.int .u8 0) 1 rfl Try.underlying22 info5 rfl (by decide) (by omega) v149 t148 l0 _ _ _ (fun _ => True) (fun _ => False) rfl rfl ?aO ?aR (fun _ _ h => h) (fun _ h => h.elim) ?aF ?aB ?aS ?aL ?_; (case aR => repeat (first | exact (Kd.C_below HR0.out HB.out) | (with_reducible refine Kd.C_alloc ?_ _) | (with_reducible refine Kd.C_drewN ?_ _) | (with_reducible refine Kd.C_drew ?_))); (case aB => exact (by repeat (first | (with_reducible first | exact HB.out | apply below_alloc | apply pw_below_drewN | apply below_drew1) | exact HB.out))); (case aF => exact (fun _ _ => trivial)); (case aO => exact (by (with_reducible repeat (first | apply Kd.R_alloc | apply Kd.R_drewN | apply Kd.R_drew)); exact HO150.out)); (case aS => exact (below_size (by repeat (first | (with_reducible first | exact HB.out | apply below_alloc | apply pw_below_drewN | apply below_drew1) | exact HB.out)))); (case aL => have := LMc6.out; omega); intro v152 w11 ho hb hg hat; rw [← Ny151.out] at ho; have n0_ := Aside0.mk (hb); have n1_ := Aside0.mk (ho); clear HB; clear HO150; have HB := n0_; have HO153 := n1_; clear n0_ n1_; clear ho hb hg hat) | ((with_reducible refine gate_callee (f := 32) rfl ?_); refine goesL_ (some 16) rfl rfl Try.func32 (by kernel_rfl) rfl #[.int .i64 a1] rfl (by (try simp only [List.map_toArray, List.map_cons, List.map_nil]); first | done | rfl | (simp only [List.length_drop, List.length_take]; rfl)) ?_; (with_reducible refine (phaetonref24_Four.calls a1 t154 _ A7.out).mono ?_); rintro e w12 ⟨v155, rfl, ho0, hb⟩; refine ⟨_, rfl, ?_⟩; have n0_ := Aside0.mk (Kd.R_elder' (by (with_reducible repeat (first | apply Kd.R_alloc | apply Kd.R_drewN | apply Kd.R_drew)); exact HO153.out) (Kd.R_base ho0) hb); have n1_ := Aside0.mk (Kd.R_lower (Kd.R_new' ho0 (Kd.R_lt (by (with_reducible repeat (first | apply Kd.R_alloc | apply Kd.R_drewN | apply Kd.R_drew)); exact HO153.out))) (below_size (by repeat (first | (with_reducible first | exact HB.out | apply below_alloc | apply pw_below_drewN | apply below_drew1) | exact HB.out)))); have n2_ := Aside0.mk (below_step (by repeat (first | (with_reducible first | exact HB.out | apply below_alloc | apply pw_below_drewN | apply below_drew1) | exact HB.out)) hb); clear HO153; clear HB; have HO153 := n0_; have HO156 := n1_; have HB := n2_; clear n0_ n1_ n2_; (try clear hb); (try clear hb2); (try clear hk); (try clear hi); (try clear ho0); obtain ⟨Ao14, co14, eo14⟩ := Kd.R_slice HO156.out; subst eo14) | ((with_reducible refine gate_builtin (b := .append) (xs := #[.tmp 14, .tmp 16]) rfl ?_); at_builtin; refine Kd.R_append_rows (Kd.int .u8) (w0 := w) w.heap.size rfl (.tmp 14) (.tmp 16) 22 5 (.int .u8 0) 1 rfl Try.underlying22 info5 rfl (by decide) (by omega) v152 y151 t154 _ _ _ (fun k_ => some k_ ≠ (.slice Ao14 t154.length co14 : Value).ownBlock) (fun _ => False) rfl rfl ?aO ?aR (fun _ _ h => h) (fun _ h => h.elim) ?aF ?aB ?aS ?aL ?_; (case aR => repeat (first | exact (Kd.R_reads' HO156.out).2.2 | (with_reducible refine Kd.C_alloc ?_ _) | (with_reducible refine Kd.C_drewN ?_ _) | (with_reducible refine Kd.C_drew ?_))); (case aB => exact (by repeat (first | (with_reducible first | exact HB.out | apply below_alloc | apply pw_below_drewN | apply below_drew1) | exact HB.out))); (case aF => exact (fun k_ hk => Kd.fresh' (Kd.R_lt (by (with_reducible repeat (first | apply Kd.R_alloc | apply Kd.R_drewN | apply Kd.R_drew)); exact HO156.out)) k_ hk)); (case aO => exact (by (with_reducible repeat (first | apply Kd.R_alloc | apply Kd.R_drewN | apply Kd.R_drew)); exact Kd.R_mono HO153.out (fun _ hk => hk.2))); (case aS => exact (below_size (by repeat (first | (with_reducible first | exact HB.out | apply below_alloc | apply pw_below_drewN | apply below_drew1) | exact HB.out)))); (case aL => have := LMc8.out; omega); intro v158 w13 ho hb hg hat; rw [← Ny157.out] at ho; have n0_ := Aside0.mk (Kd.R_after (ok := (fun _ => True)) (by (with_reducible repeat (first | apply Kd.R_alloc | apply Kd.R_drewN | apply Kd.R_drew)); exact HO156.out) hg hat); have n1_ := Aside0.mk (hb); have n2_ := Aside0.mk (ho); clear HO156; clear HB; clear HO153; have HO156 := n0_; have HB := n1_; have HO159 := n2_; clear n0_ n1_ n2_; clear ho hb hg hat; obtain ⟨Ao15, co15, eo15⟩ := Kd.R_slice HO159.out; subst eo15) | ((with_reducible refine gate_callee (f := 34) rfl ?_); refine goesL_ (some 19) rfl rfl Try.func34 (by kernel_rfl) rfl #[.slice Ao15 y157.length co15] rfl (by (try simp only [List.map_toArray, List.map_cons, List.map_nil]); first | done | rfl | (simp only [List.length_drop, List.length_take]; rfl)) ?_; (with_reducible refine (phaetonref02_Word.calls k _ _ y157 t160 _ ?side1 ?side2 A9.out).mono ?_); (case side1 => repeat (first | exact (Kd.R_reads' HO159.out).2.2 | (with_reducible refine Kd.C_alloc ?_ _) | (with_reducible refine Kd.C_drewN ?_ _) | (with_reducible refine Kd.C_drew ?_))); (case side2 => exact (Kd.R_reads' HO159.out).2.1); rintro e w' ⟨rfl, ⟨nd, rfl⟩⟩; refine ⟨_, rfl, ?_⟩))
        go_ret
        exact ⟨by first | rfl | (simp [errW_none, errW_some] <;> rfl) | (simp [*, errW_none, errW_some] <;> rfl), by repeat (first | (with_reducible first | exact HB.out | apply below_alloc | apply pw_below_drewN | apply below_drew1) | exact HB.out)⟩
      · rw [if_neg c8] at H
        exact absurd H (by simp)
    · rw [if_neg c6] at H
      exact absurd H (by simp)
  · replace c4 := Bool.eq_false_iff.mpr c4
    subst c4
    have H1 : (some 0) = some r := by rw [if_neg (show ¬ (false = true) by decide)] at H; exact H
    clear H
    have H := H1
    clear H1
    obtain rfl := Option.some.inj H
    go_enter Try.func21, Try.ntmps21
    go_wp2_with (first | ((with_reducible refine gate_callee (f := 25) rfl ?_); refine goesL_ (some 7) rfl rfl Try.func25 (by kernel_rfl) rfl #[.int .i64 a1] rfl (by (try simp only [List.map_toArray, List.map_cons, List.map_nil]); first | done | rfl | (simp only [List.length_drop, List.length_take]; rfl)) ?_; (with_reducible refine (phaetonref24_May.calls a1 false _ A3.out).mono ?_); rintro e w' ⟨rfl, ⟨nd, rfl⟩⟩; refine ⟨_, rfl, ?_⟩))
    go_ret
    exact ⟨by first | rfl | (simp [errW_none, errW_some] <;> rfl) | (simp [*, errW_none, errW_some] <;> rfl), by repeat (first | (with_reducible first | exact HB.out | apply below_alloc | apply pw_below_drewN | apply below_drew1) | exact HB.out)⟩

/-! ### image_pieces: helper -/
section
variable {F : Fence} {n : Nat} {P : Program}
/-- A loop over an iterator that has state of its own and tells all of a row: no round leaves it. -/
theorem image_range {g : Operand} {ps : Array Tmp} {assign body : Code} {Q : Exit → Act → World → Prop} {a : Act} {w : World} (hro : F.round = none) (h1 : 1 ≤ n) {gf : Nat} {lb : Array Value} (hg : a.eval g = .func (.func gf) #[] lb) (hFg : F.fn gf) (eg : ∀ args w, (callFunc gf args).run P w = .ok (.enter gf args) w)
    {α : Type} (enc : α → Value) (full : List α) (Lb : Nat) (hLb : Lb < w.heap.size) (Kp : World → World → Prop)
    (hit : ∀ (l : Nat) (J : List α → World → Prop) (W : World), Below w.heap.size w W → w.heap.size ≤ W.heap.size → (∀ s A B row, J s A → A.grownBy B row → (∀ r, row = some r → r = Lb) → J s B) →
      (∀ pre x W1, (pre ++ [x]).length ≤ full.length → J pre W1 → YieldAt F (n - 1 - 1) P l #[enc x] W1 fun e W' => e = .returned (.bool true) ∧ J (pre ++ [x]) W' ∧ Kp W1 W') → J [] W →
      CallsIn F (n - 1) P gf (#[.func (.yield l) #[] #[]] ++ lb) W fun e W' => (∃ v, e = .returned v) ∧ J full W')
    (hKt : ∀ {A B C : World}, Kp A B → Kp B C → Kp A C) (hKb : ∀ (W : World) (l : Nat) (o o' : Obj), W.heap[l]? = some o → o.isCells = false → Kp W (W.putObj l o')) (hps : ps.size = 1)
    (I : List α → World → Prop) (hI : ∀ s A B row, I s A → A.grownBy B row → (∀ r, row = some r → r = w.heap.size + 1 ∨ r = Lb) → I s B) (h0 : I [] w) (a₁ : α → Act)
    (hassign : ∀ (l : Nat) (x : α) (W : World) (K : Act → World → Prop), K (a₁ x) W →
      assign.wpIn (F.inRound l) (n - 1 - 1) P (Exit.then K (fun _ _ _ => False)) { tmps := (ps.zip #[enc x]).foldl (fun t (p, v) => t.setIfInBounds p v) a.tmps, defers := [] } W)
    (hbody : ∀ (l : Nat) (pre : List α) (x : α) (W : World), (pre ++ [x]).length ≤ full.length → w.heap.size + 2 ≤ W.heap.size → I pre W → body.wpIn (F.inRound l) (n - 1 - 1) P (fun e _ W' => e = .normal ∧ KeepsOthers W W' ∧ Kp W W' ∧ I (pre ++ [x]) W') (a₁ x) W)
    (hdone : ∀ (D : Nat) (W : World), D = w.heap.size → I full W → W.heap[D]? = some (.deferred (some [])) → Q .normal { a with defers := { target := .collected D, args := #[] } :: a.defers } W) :
    (Code.rangeFunc g ps assign body).wpIn F n P Q a w := by
  refine wpIn_rangeFunc fun fn hfn => ?_
  rw [hro]
  obtain ⟨rc, hrc⟩ : ∃ rc : LoopState → Loop, rc = fun st => { state := st, pending := none, fn, tmps := a.tmps, params := ps, assign, body, defers := w.heap.size } := ⟨_, rfl⟩
  obtain ⟨W1, hW1⟩ : ∃ W1, (w.alloc (.deferred (some []))).alloc (.loop (rc .ready)) = W1 := ⟨_, rfl⟩
  have hs : W1.heap.size = w.heap.size + 2 := by rw [← hW1]; simp
  have hL : W1.heap[w.heap.size + 1]? = some (.loop (rc .ready)) := by
    have := heap_alloc_new (w.alloc (.deferred (some []))) (.loop (rc .ready))
    rw [← hW1]; simpa using this
  have hD : W1.heap[w.heap.size]? = some (.deferred (some [])) := by
    rw [← hW1]; exact (Below.heap_alloc _ _ _ (by simp)).trans (heap_alloc_new w _)
  have hI1 : I [] W1 := by
    rw [← hW1]
    exact hI _ _ _ none (hI _ _ _ none h0 (World.grownBy_alloc _ _ none) (fun r e => by cases e)) (World.grownBy_alloc _ _ none) (fun r e => by cases e)
  have hb : Below w.heap.size w W1 := by rw [← hW1]; exact below_alloc (below_alloc (Below.refl _ _) _) _
  refine ⟨w.heap.size + 1, [{ target := .collected w.heap.size, args := #[] }], W1, { target := .fn (.func gf) lb, args := #[.func (.yield (w.heap.size + 1)) #[] #[]] }, W1, gf, #[.func (.yield (w.heap.size + 1)) #[] #[]] ++ lb, W1, ?_, ?_, ?_, ?_, fun _ => h1, ?_⟩
  · rw [← hW1, hrc]; exact run_enterLoop_outer _ _ _ _ _
  · simp only [resolve, hg]; simp [go_sem]
  · intro f' hf'; simp [Target.leads] at hf'; subst hf'; exact hFg
  · simp [invoke, go_sem, eg]
  · refine (hit (w.heap.size + 1) (fun pre W => I pre W ∧ W.heap[w.heap.size + 1]? = some (.loop (rc .ready)) ∧ W.heap[w.heap.size]? = some (.deferred (some []))) W1 hb (by omega) ?_ ?_ ⟨hI1, hL, hD⟩).mono ?_
    · rintro s A B row ⟨x1, x2, x3⟩ hgr hr
      exact ⟨hI s A B row x1 hgr (fun r e => by have := hr r e; omega), blk_grown x2 hgr (fun e => by have := hr _ e.symm; omega), blk_grown x3 hgr (fun e => by have := hr _ e.symm; omega)⟩
    · rintro pre x W hpl ⟨x1, x2, x3⟩
      have hlt := blk_lt x2
      have hy := run_yield (P := P) (args := #[enc x]) x2 (by rw [hrc]; exact hps.symm)
      rw [hrc] at hy
      refine ⟨fn, _, assign, body, hy, roundIn_of_wpIn hfn (hassign _ x W _ ⟨_, run_beginRound x2 (by rw [hrc]), ?_⟩)⟩
      have i2 := hI _ _ _ _ x1 (grownBy_putObj' W (w.heap.size + 1) (.loop { rc .ready with state := .busy })) (fun r e => by cases e; omega)
      have l2 : (W.putObj (w.heap.size + 1) (.loop { rc .ready with state := .busy })).heap[w.heap.size + 1]? = some (.loop { rc .ready with state := .busy }) := World.putObj_heap_same hlt
      have d2 : (W.putObj (w.heap.size + 1) (.loop { rc .ready with state := .busy })).heap[w.heap.size]? = some (.deferred (some [])) := (World.putObj_heap_other (by omega)).trans x3
      refine wpIn_mono (hbody _ pre x _ hpl (Nat.le_trans (by omega : w.heap.size + 2 ≤ W.heap.size) (grownBy_putObj' _ _ _).size) i2) ?_
      rintro e a3 W3 ⟨rfl, k3, p3, i3⟩
      have l3 := k3.same _ _ l2 rfl
      have d3 := k3.same _ _ d2 rfl
      have hr := run_endRound (P := P) none l3
      refine ⟨_, _, hr, rfl, ⟨hI _ _ _ _ i3 (grownBy_putObj' W3 (w.heap.size + 1) _) (fun r e => by cases e; omega), ?_, (World.putObj_heap_other (by omega)).trans d3⟩, hKt (hKt (hKb _ _ _ _ x2 rfl) p3) (hKb _ _ _ _ l3 rfl)⟩
      rw [World.putObj_heap_same (blk_lt l3), hrc]; rfl
    · rintro e W2 ⟨⟨v, rfl⟩, x1, x2, x3⟩
      refine ⟨none, _, by have := run_endLoop (P := P) x2 (by rw [hrc]; simp); rw [hrc] at this; exact this, hdone _ _ rfl (hI _ _ _ _ x1 (grownBy_putObj' W2 (w.heap.size + 1) _) (fun r e => by cases e; omega)) ((World.putObj_heap_other (by omega)).trans x3)⟩
end
/-- The cells of the block g lie as they lay. -/
def image_Kp (g : Nat) (A B : World) : Prop := A.heap.size ≤ B.heap.size ∧ ∀ o, A.heap[g]? = some o → o.isCells = true → B.heap[g]? = some o
theorem image_Kp.trans {g : Nat} {A B C : World} (h : image_Kp g A B) (k : image_Kp g B C) : image_Kp g A C := ⟨Nat.le_trans h.1 k.1, fun o ho hc => k.2 o (h.2 o ho hc) hc⟩
theorem image_Kp.refl (g : Nat) (A : World) : image_Kp g A A := ⟨Nat.le_refl _, fun _ h _ => h⟩
theorem image_Kp.put (g : Nat) (W : World) (l : Nat) (o o' : Obj) (h : W.heap[l]? = some o) (hc : o.isCells = false) : image_Kp g W (W.putObj l o') := by
  refine ⟨(grownBy_putObj' W l o').size, fun u hu hcu => blk_grown hu (grownBy_putObj' W l o') (fun e => ?_)⟩
  cases e
  rw [h] at hu; cases hu
  rw [hc] at hcu; cases hcu
theorem image_Kp.grown {g : Nat} {A B : World} {row : Option Nat} (h : A.grownBy B row) (hr : some g ≠ row) : image_Kp g A B := ⟨h.size, fun _ ho _ => blk_grown ho h hr⟩
/-- The pieces of a row of so many bytes: where each begins, and how many it has. -/
def image_spans (n : Nat) : List (Nat × Nat) := (List.range ((n + 63) / 64)).map fun k => (64 * k, min 64 (n - 64 * k))
def image_enc (A0 : Option Addr) (x : Nat × Nat) : Value := .slice (A0.map (·.add x.1)) x.2 x.2
section
attribute [local go_sem] Oper.semAt_some
set_option maxRecDepth 100000 in
set_option maxHeartbeats 1600000 in
theorem image_iter (d l Lb : Nat) (hd : 1 ≤ d) (A0 : Option Addr) (c0 n : Nat) (J : List (Nat × Nat) → World → Prop) (W : World)
    (hLb : W.heap[Lb]? = some (.cells #[.slice A0 n c0] 22 (0, 0))) (hA : 0 < n → ∃ ad, A0 = some ad) (hc0 : n ≤ c0) (hn : n ≤ 4611686018427387904)
    (hJ : ∀ s A B row, J s A → A.grownBy B row → (∀ r, row = some r → r = Lb) → J s B)
    (hY : ∀ pre x W1, (pre ++ [x]).length ≤ (image_spans n).length → J pre W1 → YieldAt Fence.wide (d - 1) Try.prog l #[image_enc A0 x] W1 fun e W' => e = .returned (.bool true) ∧ J (pre ++ [x]) W' ∧ image_Kp Lb W1 W') (h0 : J [] W) :
    CallsIn Fence.wide d Try.prog 38 #[.func (.yield l) #[] #[], .pointer (some ⟨Lb, 0, none⟩)] W fun e W' => (∃ v, e = .returned v) ∧ J (image_spans n) W' := by
  refine callsIn_of_wp Try.func38 rfl trivial ?_ rfl
  simp only [Try.ntmps38, List.size_toArray, List.length_cons, List.length_nil, Nat.reduceAdd, Nat.reduceSub, Array.replicate_succ, Array.replicate_zero, List.push_toArray, List.append_toArray, List.nil_append, List.cons_append]
  have HJ0 := Aside0.mk h0
  have HL0 := Aside0.mk hLb
  have hLlt := blk_lt hLb
  clear h0 hLb
  gi_wp2
  gi_loopw [] (fun wr => ∃ (k : Nat) (X : Option Addr), k ≤ (n + 63) / 64 ∧ (64 * k < n → X = A0.map (·.add (64 * k))) ∧ Aside0 (J ((image_spans n).take k) wr) ∧ W.heap.size ≤ wr.heap.size ∧ Aside0 (wr.heap[Lb]? = some (.cells #[.slice X (n - min (64 * k) n) (c0 - min (64 * k) n)] 22 (0, 0)))) (fun wr => match wr.cell? ⟨Lb, 0, none⟩ with | some (.slice _ m _) => m | _ => 0)
  case atStart => exact ⟨0, A0, by omega, fun _ => by cases A0 <;> simp [Addr.add], ⟨by simpa using HJ0.out⟩, Nat.le_refl _, ⟨by simpa using HL0.out⟩⟩
  case round =>
    clear HJ0 HL0
    obtain ⟨k, X, hk, hX, HJ, hsz, HL⟩ := hrel
    have cL : wr.cell? ⟨Lb, 0, none⟩ = some (.slice X (n - min (64 * k) n) (c0 - min (64 * k) n)) := by rw [blk_cell HL.out]; rfl
    have fL : wr.frozen? ⟨Lb, 0, none⟩ = false := blk_frozen HL.out 0
    by_cases hlt : 64 * k < n
    · obtain ⟨ad, rfl⟩ := hA (by omega)
      obtain rfl := hX hlt
      rw [Option.map_some] at HL cL
      rw [Nat.min_eq_left (by omega : 64 * k ≤ n)] at cL HL
      have hsn : (image_spans n).take (k + 1) = (image_spans n).take k ++ [(64 * k, min 64 (n - 64 * k))] := by
        have hl : k < (image_spans n).length := by simp only [image_spans, List.length_map, List.length_range]; omega
        rw [List.take_succ_eq_append_getElem hl]
        simp [image_spans]
      have HSN := Aside0.mk hsn
      clear hsn hX
      obtain ⟨M, hM⟩ : ∃ M, M = min 64 (n - 64 * k) := ⟨_, rfl⟩
      have hM0 : 0 < M := by omega
      gi_wp2
      all_goals
        obtain ⟨fn, tmps, assign, body, hy, hR⟩ := hY _ (64 * k, min 64 (n - 64 * k)) wr (by rw [← HSN.out, List.length_take]; omega) HJ.out
        have hMe : image_enc (some ad) (64 * k, min 64 (n - 64 * k)) = .slice (some (ad.add (64 * k))) M M := by rw [← hM]; rfl
        rw [hMe] at hy
        first
          | (have hme : n - 64 * k = M := by omega
             rw [hme])
          | (have hme : M = (64 : Nat) := by omega
             rw [hme] at hy)
        rw [hy, Oper.uponIn_round]
        refine ⟨fun h => by simp [Fence.wide] at h, hR.mono ?_⟩
        rintro e W4 ⟨rfl, hJ4, hk4⟩
        have hL4 := hk4.2 _ HL.out rfl
        have hsz4 : W.heap.size ≤ W4.heap.size := by have := hk4.1; omega
        have HJ4 := Aside0.mk hJ4
        have cL4 : W4.cell? ⟨Lb, 0, none⟩ = some (.slice (some (ad.add (64 * k))) (n - 64 * k) (c0 - 64 * k)) := by rw [blk_cell hL4]; rfl
        have fL4 : W4.frozen? ⟨Lb, 0, none⟩ = false := blk_frozen hL4 0
        have HL4 := Aside0.mk hL4
        have hlL4 := blk_lt hL4
        have HCL := Aside0.mk cL
        clear hL4 hJ4 hk4 hy hR hMe HJ cL fL
      · have HM := Aside0.mk hM
        clear hme hM
        gi_wp2
        go_roundw
        case rel =>
          refine ⟨k + 1, _, by omega, fun _ => ?_, ⟨?_⟩, by simpa [World.setCell] using hsz4, ⟨by rw [Nat.min_eq_left (by omega : 64 * (k + 1) ≤ n), show n - 64 * (k + 1) = n - 64 * k - 64 by omega, show c0 - 64 * (k + 1) = c0 - 64 * k - 64 by omega]; exact blk_set HL4.out 0 _⟩⟩
          · rw [show 64 * (k + 1) = 64 * k + 64 by omega, Option.map_some, ← Addr.add_add]; rfl
          · rw [HSN.out]; exact hJ _ _ _ (some Lb) HJ4.out (grownBy_setCell' _ _ _) (fun r e => by cases e; rfl)
        case measure =>
          rw [HCL.out, blk_cell (blk_set HL4.out 0 _)]
          show n - 64 * k - 64 < n - 64 * k
          omega
      · rw [hme] at cL4
        have HM := Aside0.mk hM
        have HME := Aside0.mk hme
        clear hM hme
        gi_wp2
        go_roundw
        case rel =>
          have hme := HME.out
          refine ⟨k + 1, _, by omega, fun h => absurd h (by omega), ⟨?_⟩, by simpa [World.setCell] using hsz4, ⟨by rw [Nat.min_eq_right (by omega : n ≤ 64 * (k + 1)), Nat.sub_self, show c0 - n = c0 - 64 * k - M by omega]; exact blk_set HL4.out 0 _⟩⟩
          rw [HSN.out]; exact hJ _ _ _ (some Lb) HJ4.out (grownBy_setCell' _ _ _) (fun r e => by cases e; rfl)
        case measure =>
          have hme := HME.out
          rw [HCL.out, blk_cell (blk_set HL4.out 0 _)]
          show 0 < n - 64 * k
          omega
    · have hz : n - min (64 * k) n = 0 := by omega
      rw [hz] at cL
      have hfull : (image_spans n).take k = image_spans n := by
        apply List.take_of_length_le
        simp only [image_spans, List.length_map, List.length_range]
        omega
      rw [hfull] at HJ
      gi_wp2
      go_end0
      exact ⟨⟨_, rfl⟩, HJ.out⟩
end
theorem image_pieces_calls (A0 : Option Addr) (c0 n : Nat) (w : World) : Calls Try.prog 35 #[.slice A0 n c0] w fun e w' => e = .returned (.func (.func 38) #[] #[.pointer (some ⟨w.heap.size, 0, none⟩)]) ∧ w' = w.alloc (.cells #[.slice A0 n c0] 22) := by
  have hmf : ∀ (fn : Fn) (first cap : Array Value) (w : World), (Instr.makeFunc fn first cap).run Try.prog w = .ok (.func fn first cap) w := fun _ _ _ _ => rfl
  go_enter Try.func35, Try.ntmps35
  go_wp2
  go_ret
  exact ⟨rfl, rfl⟩
/-- A row of rows of bytes that is read. -/
def RdVV (w : World) (v : Value) (xs : List (List Int)) : Prop := ∃ A c, v = .slice A xs.length c ∧ xs.length ≤ c ∧ (Kd.slice 5 (Kd.int .u8)).C w A xs.length xs
theorem RdVV.slice {w : World} {v : Value} {xs : List (List Int)} (h : RdVV w v xs) : ∃ A c, v = .slice A xs.length c := by
  obtain ⟨A, c, e, _⟩ := h
  exact ⟨A, c, e⟩
theorem RdVV.reads {w : World} {A : Option Addr} {n c : Nat} {xs : List (List Int)} (h : RdVV w (.slice A n c) xs) : n = xs.length ∧ n ≤ c ∧ (Kd.slice 5 (Kd.int .u8)).C w A xs.length xs := by
  obtain ⟨A', c', e, hl, hr⟩ := h
  cases e
  exact ⟨rfl, hl, hr⟩
theorem RdVV.below {w w1 : World} {v : Value} {xs : List (List Int)} (h : RdVV w v xs) (hb : Below w.heap.size w w1) : RdVV w1 v xs := by
  obtain ⟨A, c, e, hl, hr⟩ := h
  exact ⟨A, c, e, hl, Kd.C_below hr hb⟩
theorem RdVV.drew {w : World} {v : Value} {xs : List (List Int)} (h : RdVV w v xs) : RdVV w.drew v xs := h.below (below_drew (Below.refl _ _))
theorem RdVV.alloc {w : World} {v : Value} {xs : List (List Int)} (h : RdVV w v xs) (o : Obj) : RdVV (w.alloc o) v xs := h.below (below_alloc (Below.refl _ _) o)
theorem RdVV.drewN {w : World} {v : Value} {xs : List (List Int)} (h : RdVV w v xs) (n : Nat) : RdVV (w.drewN n) v xs := h.below (pw_below_drewN (Below.refl _ _) n)
theorem image_cell {w w' : World} {a : Addr} {u : Value} (h : w.cell? a = some u) (hm : ∀ k, k < w.heap.size → w'.heap[k]? = w.heap[k]?) : w'.cell? a = some u := by
  have hlt := World.block_lt_of_cell? _ _ h
  have e := hm _ hlt
  simpa [World.cell?, e] using h
theorem image_C_move {w w' : World} {A : Option Addr} {n : Nat} {xs : List Int} (h : (Kd.int .u8).C w A n xs) (hm : ∀ k, k < w.heap.size → w'.heap[k]? = w.heap[k]?) : (Kd.int .u8).C w' A n xs := by
  refine ⟨h.1, h.2.1, fun hp => ?_⟩
  obtain ⟨ad, e, hc⟩ := h.2.2 hp
  refine ⟨ad, e, fun j p hj => ?_⟩
  obtain ⟨c, hs, hr, hcell⟩ := hc j p hj
  exact ⟨c, hs, hr, fun i u hu => image_cell (hcell i u hu) hm⟩
theorem RdVV.move {w w' : World} {v : Value} {xs : List (List Int)} (h : RdVV w v xs) (hm : ∀ k, k < w.heap.size → w'.heap[k]? = w.heap[k]?) : RdVV w' v xs := by
  obtain ⟨A, c, e, hl, hr⟩ := h
  refine ⟨A, c, e, hl, hr.1, hr.2.1, fun hp => ?_⟩
  obtain ⟨ad, e2, hc⟩ := hr.2.2 hp
  refine ⟨ad, e2, fun j p hj => ?_⟩
  obtain ⟨cs, hs, hK, hcell⟩ := hc j p hj
  obtain ⟨A', c', e3, hl', hC⟩ := hK
  exact ⟨cs, hs, ⟨A', c', e3, hl', image_C_move hC hm⟩, fun i u hu => image_cell (hcell i u hu) hm⟩
/-- A row of rows of bytes that is read, all of whose blocks are ok. -/
def RdA (w : World) (ok : Nat → Prop) (v : Value) (xs : List (List Int)) : Prop := ∃ D : Nat → Prop, (∀ k, D k → ok k ∧ k < w.heap.size) ∧ ∀ w' : World, (∀ k, D k → w'.heap[k]? = w.heap[k]?) → RdVV w' v xs
theorem RdA.of {w : World} {v : Value} {xs : List (List Int)} (h : RdVV w v xs) : RdA w (fun _ => True) v xs := ⟨fun k => k < w.heap.size, fun k hk => ⟨trivial, hk⟩, fun w' hm => h.move hm⟩
theorem RdA.rd {w : World} {ok : Nat → Prop} {v : Value} {xs : List (List Int)} (h : RdA w ok v xs) : RdVV w v xs := by
  obtain ⟨D, _, h2⟩ := h
  exact h2 w (fun _ _ => rfl)
theorem RdA.slice {w : World} {ok : Nat → Prop} {v : Value} {xs : List (List Int)} (h : RdA w ok v xs) : ∃ A c, v = .slice A xs.length c := h.rd.slice
theorem RdA.reads {w : World} {ok : Nat → Prop} {A : Option Addr} {n c : Nat} {xs : List (List Int)} (h : RdA w ok (.slice A n c) xs) : n = xs.length ∧ n ≤ c ∧ (Kd.slice 5 (Kd.int .u8)).C w A xs.length xs := h.rd.reads
theorem RdA.mono {w : World} {ok ok' : Nat → Prop} {v : Value} {xs : List (List Int)} (h : RdA w ok v xs) (hok : ∀ k, ok k → ok' k) : RdA w ok' v xs := by
  obtain ⟨D, h1, h2⟩ := h
  exact ⟨D, fun k hk => ⟨hok k (h1 k hk).1, (h1 k hk).2⟩, h2⟩
theorem RdA.step {w w1 : World} {ok ok' : Nat → Prop} {v : Value} {xs : List (List Int)} (h : RdA w ok v xs) (hm : ∀ k, ok k → k < w.heap.size → w1.heap[k]? = w.heap[k]?) (hs : w.heap.size ≤ w1.heap.size) (hok : ∀ k, ok k → k < w.heap.size → ok' k) : RdA w1 ok' v xs := by
  obtain ⟨D, h1, h2⟩ := h
  exact ⟨D, fun k hk => ⟨hok k (h1 k hk).1 (h1 k hk).2, Nat.lt_of_lt_of_le (h1 k hk).2 hs⟩, fun w' hw => h2 w' (fun k hk => (hw k hk).trans (hm k (h1 k hk).1 (h1 k hk).2))⟩
theorem RdA.below {w w1 : World} {ok : Nat → Prop} {v : Value} {xs : List (List Int)} (h : RdA w ok v xs) (hb : Below w.heap.size w w1) : RdA w1 ok v xs := h.step (fun k _ hk => hb.block k hk) hb.size (fun _ h _ => h)
theorem RdA.alloc {w : World} {ok : Nat → Prop} {v : Value} {xs : List (List Int)} (h : RdA w ok v xs) (o : Obj) : RdA (w.alloc o) ok v xs := h.below (below_alloc (Below.refl _ _) o)
theorem RdA.drewN {w : World} {ok : Nat → Prop} {v : Value} {xs : List (List Int)} (h : RdA w ok v xs) (n : Nat) : RdA (w.drewN n) ok v xs := h.below (pw_below_drewN (Below.refl _ _) n)
theorem RdA.drew {w : World} {ok : Nat → Prop} {v : Value} {xs : List (List Int)} (h : RdA w ok v xs) : RdA w.drew ok v xs := h.below (below_drew (Below.refl _ _))
theorem RdA.elder {w w1 : World} {ok : Nat → Prop} {v u : Value} {xs : List (List Int)} (h : RdA w ok v xs) (hu : ∀ k, u.ownBlock = some k → w.heap.size ≤ k) (hb : Below w.heap.size w w1) : RdA w1 (fun k => some k ≠ u.ownBlock) v xs :=
  h.step (fun k _ hk => hb.block k hk) hb.size (fun k _ hk e => by have := hu k e.symm; omega)
theorem RdA.after {W w1 : World} {v v1 u : Value} {xs : List (List Int)} (h : RdA W (fun k => some k ≠ v.ownBlock) u xs) (hg : W.grownBy w1 v.ownBlock) (hat : v1.ownBlock = v.ownBlock ∨ ∃ b, v1.ownBlock = some b ∧ W.heap.size ≤ b) : RdA w1 (fun k => some k ≠ v1.ownBlock) u xs :=
  h.step (fun k ho hk => hg.block k hk ho) hg.size (fun k ho hk e => by
    rcases hat with hat | ⟨b, hb, hle⟩
    · rw [hat] at e; exact ho e
    · rw [hb] at e; cases e; omega)

/-! ### image_Blocks: function 23 -/
def image_Blocks.f (l0 : List Int) : Option (List (List Int)) := if l0.length ≤ 1000000 then some ((image_spans l0.length).map fun x => (l0.drop x.1).take x.2) else none
/-- A cut of a row that is read is read. -/
theorem image_inner {w : World} {A0 : Option Addr} {l0 : List Int} (hr0 : Kd.C (Kd.int .u8) w A0 l0.length l0) (o m : Nat) (h : o + m ≤ l0.length) : Kd.C (Kd.int .u8) w (A0.map (·.add o)) m ((l0.drop o).take m) := by
  refine ⟨by rw [List.length_take, List.length_drop]; omega, by have := hr0.2.1; omega, fun hp => ?_⟩
  obtain ⟨ad, e, hc⟩ := hr0.2.2 (by omega)
  refine ⟨ad.add o, by rw [e]; rfl, fun j p hj => ?_⟩
  rw [List.getElem?_take] at hj
  by_cases hjm : j < m
  · rw [if_pos hjm, List.getElem?_drop] at hj
    obtain ⟨c, hs, hr, hcell⟩ := hc (o + j) p hj
    refine ⟨c, hs, hr, fun i u hu => ?_⟩
    have e2 : o + (j * (Kd.int .u8).sz + i) = (o + j) * (Kd.int .u8).sz + i := by
      show o + (j * 1 + i) = (o + j) * 1 + i
      omega
    rw [Addr.add_add, e2]
    exact hcell i u hu
  · rw [if_neg hjm] at hj; cases hj
theorem image_spans_le {n : Nat} {x : Nat × Nat} (h : x ∈ image_spans n) : x.1 + x.2 ≤ n := by
  simp only [image_spans, List.mem_map, List.mem_range] at h
  obtain ⟨k, hk, rfl⟩ := h
  simp only
  omega
theorem image_told {w : World} {base : Nat} {e n : Nat} {v : Value} {A0 : Option Addr} {l0 : List Int} (hr0 : Kd.C (Kd.int .u8) w A0 l0.length l0) (xs : List (Nat × Nat)) (hn : xs.length = n) (hx : ∀ x ∈ xs, x.1 + x.2 ≤ l0.length) (h : w.ownsRow base e 1 v n (encs (image_enc A0) xs)) :
    RdVV w v (xs.map fun x => (l0.drop x.1).take x.2) := by
  obtain ⟨A, c, rfl, hR⟩ := own_reads_row (R := (Kd.slice 5 (Kd.int .u8)).K w) (ps := xs.map fun x => (l0.drop x.1).take x.2) h ⟨by rw [encs_length, List.length_map, Nat.mul_one], fun j p hj => by
    rw [List.getElem?_map] at hj
    obtain ⟨x, hxj, rfl⟩ := Option.map_eq_some_iff.1 hj
    have hq : ((encs (image_enc A0) xs).drop (j * 1)).take 1 = [image_enc A0 x] := (Kd.reps_scalar (enc := image_enc A0) xs).2 j x hxj
    rw [hq]
    have hxm := hx x (List.mem_of_getElem? hxj)
    have hle : ((l0.drop x.1).take x.2).length = x.2 := by rw [List.length_take, List.length_drop]; omega
    refine ⟨A0.map (·.add x.1), x.2, ?_, by omega, ?_⟩
    · rw [hle]; rfl
    · rw [hle]; exact image_inner hr0 _ _ hxm⟩ (by rw [List.length_map]; exact hn)
  have hl : (xs.map fun x => (l0.drop x.1).take x.2).length = n := by rw [List.length_map]; exact hn
  exact ⟨A, c, by rw [hl], by rw [hl]; exact own_le h, by rw [hl]; exact hR⟩
section
attribute [local go_sem] Oper.semAt_some
set_option maxRecDepth 100000 in
set_option maxHeartbeats 1600000 in
theorem image_Blocks.calls (A0 : Option Addr) (c0 : Nat) (l0 : List Int) (r : List (List Int)) (w : World) (hr0 : Kd.C (Kd.int .u8) w A0 l0.length l0) (hc0 : l0.length ≤ c0) (h : image_Blocks.f l0 = some r) :
    Calls Try.prog 23 #[.slice A0 l0.length c0] w fun e w' => ∃ v0_ : Value, e = .returned v0_ ∧ RdVV w' v0_ r ∧ Below w.heap.size w w' := by
  unfold image_Blocks.f at h
  have hlen : l0.length ≤ 1000000 := by
    by_cases hlen : l0.length ≤ 1000000
    · exact hlen
    · rw [if_neg hlen] at h; cases h
  rw [if_pos hlen] at h
  obtain rfl := Option.some.inj h
  clear h
  have hA : 0 < l0.length → ∃ ad, A0 = some ad := fun h0 => by
    obtain ⟨ad, e, _⟩ := Kd.at_int hr0 (0 : Nat) (by omega) (by omega)
    exact ⟨ad, e⟩
  obtain ⟨i0, hi, hz0, hz1, hz2⟩ := info_parts info22
  have hf1 : Fence.wide.fn 35 := trivial
  have hf2 : Fence.wide.fn 38 := trivial
  refine (callsIn_wide (n := 5)).1 ?_
  refine callsIn_of_wp_marks Try.func23 rfl trivial ?_ rfl
  simp only [Try.ntmps23, List.size_toArray, List.length_cons, List.length_nil, Nat.reduceAdd, Nat.reduceSub, Array.replicate_succ, Array.replicate_zero, List.push_toArray, List.append_toArray, List.nil_append, List.cons_append]
  gi_wp2_with (gi_at_call 35; refine (callsIn_wide.2 (image_pieces_calls _ _ _ _)).mono ?_; rintro e w' ⟨rfl, rfl⟩)
  have hnw : (w.alloc (.cells #[.slice none 0 0] 36)).heap.size = w.heap.size + 1 := by simp
  have hn2 : ((w.alloc (.cells #[.slice none 0 0] 36)).alloc (.cells #[.slice A0 l0.length c0] 22)).heap.size = w.heap.size + 2 := by simp
  have hb2 : Below w.heap.size w ((w.alloc (.cells #[.slice none 0 0] 36)).alloc (.cells #[.slice A0 l0.length c0] 22)) := below_alloc (below_alloc (Below.refl _ _) _) _
  have hL2 : ((w.alloc (.cells #[.slice none 0 0] 36)).alloc (.cells #[.slice A0 l0.length c0] 22)).heap[w.heap.size + 1]? = some (.cells #[.slice A0 l0.length c0] 22 (0, 0)) := by
    have := blk_new (w.alloc (.cells #[.slice none 0 0] 36)) (.cells #[.slice A0 l0.length c0] 22)
    rwa [hnw] at this
  have hO2 : ((w.alloc (.cells #[.slice none 0 0] 36)).alloc (.cells #[.slice A0 l0.length c0] 22)).heap[w.heap.size]? = some (.cells #[.slice none 0 0] 36 (0, 0)) := blk_alloc (blk_new _ _) _
  generalize hw2 : ((w.alloc (.cells #[.slice none 0 0] 36)).alloc (.cells #[.slice A0 l0.length c0] 22)) = w2 at *
  refine image_range rfl (by omega) (gf := 38) (lb := #[.pointer (some ⟨w.heap.size + 1, 0, none⟩)]) rfl trivial (enters_of Try.func38 (by kernel_rfl) rfl) (image_enc A0) (image_spans l0.length) (w.heap.size + 1) (by omega) (image_Kp (w.heap.size + 1)) ?hit (fun h k => h.trans k) (fun W l o o' h hc => image_Kp.put _ _ _ _ _ h hc) rfl
    (fun pre W1 => ∃ v, W1.heap[w.heap.size]? = some (.cells #[v] 36 (0, 0)) ∧ W1.ownsRow (w2.heap.size + 2) 22 1 v pre.length (encs (image_enc A0) pre) ∧ Below w.heap.size w W1) ?hI ⟨_, hO2, own_nil _ _ _ _, hb2⟩
    (fun y => { tmps := #[.slice A0 l0.length c0, undef, .slice none 0 0, .pointer (some ⟨w.heap.size, 0, none⟩), (.slice (A0.map (·.add y.1)) y.2 y.2), .slice A0 l0.length c0, .func (.func 38) #[] #[.pointer (some ⟨w.heap.size + 1, 0, none⟩)], (.slice (A0.map (·.add y.1)) y.2 y.2), undef, undef, undef, undef, undef], defers := [] }) ?assign ?body ?done
  case hit =>
    intro l J W hb hsz hJ hY h0
    exact image_iter _ l (w.heap.size + 1) (by omega) A0 c0 l0.length J W (blk_below hL2 hb) hA hc0 (by omega) hJ hY h0
  case hI =>
    rintro s A B row ⟨v, x1, x2, x3⟩ hg hr
    refine ⟨v, blk_grown x1 hg (fun e => by have := hr _ e.symm; omega), own_other x2 hg ?_, x3.grown hg (by have := blk_lt x1; omega) (fun k e => by have := hr _ e; omega)⟩
    by_cases hne : v.ownBlock = none
    · exact .inl hne
    refine .inr fun e => ?_
    cases hv : v.ownBlock with
    | none => exact absurd hv hne
    | some k =>
      have h1 := own_base x2 k hv
      have h2 := hr k (by rw [← e, hv])
      omega
  case assign =>
    intro l x W K hK
    gi_wp2
    exact hK
  case body =>
    rintro l pre x W hpl hsW ⟨v, x1, x2, x3⟩
    simp only [List.length_append, List.length_singleton, image_spans, List.length_map, List.length_range] at hpl
    have c1 : W.cell? ⟨w.heap.size, 0, none⟩ = some v := by rw [blk_cell x1]; rfl
    have f1 : W.frozen? ⟨w.heap.size, 0, none⟩ = false := blk_frozen x1 0
    obtain ⟨xA, hxA⟩ : ∃ xA, A0.map (·.add x.1) = xA := ⟨_, rfl⟩
    rw [hxA]
    have HXA := Aside0.mk hxA
    clear hxA
    have hc1 : ∀ j u, ([.slice xA x.2 x.2] : List Value)[j]? = some u → (W.alloc (.cells #[.slice xA x.2 x.2] 22)).cell? ((⟨W.heap.size, 0, none⟩ : Addr).add j) = some u := by
      intro j u hj
      match j, hj with
      | 0, hj => simp at hj; subst hj; rw [show (⟨W.heap.size, 0, none⟩ : Addr).add 0 = ⟨W.heap.size, 0, none⟩ by simp [Addr.add], blk_cell (blk_new W _)]; rfl
    have hc2 : ∀ u ∈ ([.slice xA x.2 x.2] : List Value), u.oneCell' = true := by intro u hu; simp at hu; subst hu; rfl
    have hc4 : (pre.length + 1) * 24 ≤ 140737488355328 := by omega
    have hc3 : pre.length + 1 ≤ maxLen := by simp only [maxLen]; omega
    have hc5 : w2.heap.size + 2 ≤ (W.alloc (.cells #[.slice xA x.2 x.2] 22)).heap.size := by simp; omega
    have HX2 := Aside0.mk (x2.alloc (.cells #[.slice xA x.2 x.2] 22))
    have HX1 := Aside0.mk (blk_alloc x1 (.cells #[.slice xA x.2 x.2] 22))
    have HX3 := Aside0.mk x3
    clear x1 x2 x3
    gi_wp2_with (gi_at_builtin; refine wpListIn_append_own _ rfl _ _ 36 rfl (w2.heap.size + 2) 22 i0 (.slice none 0 0) 1 24 Try.underlying36 hi hz0 hz1 hz2 rfl (by decide) _ _ _ rfl HX2.out ⟨W.heap.size, 0, none⟩ 1 1 [.slice xA x.2 x.2] rfl rfl hc1 hc2 hc3 hc4 hc5 ?_)
    intro v' w' hown' hgrow _
    obtain ⟨A', c', hv'⟩ := own_slice hown'
    subst hv'
    have hbo : ∀ k, v.ownBlock = some k → w2.heap.size + 2 ≤ k := own_base HX2.out
    have hx1' := blk_grown HX1.out hgrow (fun e => by have := hbo _ e.symm; omega)
    have hb' : Below w.heap.size w w' := (below_alloc HX3.out _).grown hgrow (by have := HX3.out.size; simp; omega) (fun k e => by have := hbo _ e; omega)
    have hk0 : KeepsOthers W w' := (KeepsOthers.alloc W _).trans (KeepsOthers.of_grownBy hgrow (fun j o hj ho => by
      obtain ⟨cells, hc⟩ := own_typed HX2.out j hj
      rw [hc] at ho; cases ho; rfl))
    have hk1 : image_Kp (w.heap.size + 1) W w' := (image_Kp.grown (World.grownBy_alloc _ _ none) (by simp)).trans (image_Kp.grown hgrow (fun e => by have := hbo _ e.symm; omega))
    have c2 : w'.cell? ⟨w.heap.size, 0, none⟩ = some v := by rw [blk_cell hx1']; rfl
    have f2 : w'.frozen? ⟨w.heap.size, 0, none⟩ = false := blk_frozen hx1' 0
    have HX1' := Aside0.mk hx1'
    have HB' := Aside0.mk hb'
    have HK0 := Aside0.mk hk0
    have HK1 := Aside0.mk hk1
    have HO' := Aside0.mk hown'
    clear hx1' hb' hk0 hk1 hown' hgrow HX1 HX2 HX3
    gi_wp2
    have hbo' : ∀ k, (Value.slice A' (pre.length + 1) c').ownBlock = some k → w.heap.size + 2 + 2 ≤ k := own_base HO'.out
    refine ⟨HK0.out.trans (KeepsOthers.setCell _ _ _), HK1.out.trans (image_Kp.grown (grownBy_setCell' _ _ _) (by simp)), _, blk_set HX1'.out 0 _, ?_, HB'.out.setCell (p := ⟨w.heap.size, 0, none⟩) (Nat.le_refl _) _⟩
    refine own_setCell (by rw [show encs (image_enc A0) (pre ++ [x]) = encs (image_enc A0) pre ++ [.slice xA x.2 x.2] by rw [← HXA.out]; simp [encs, image_enc]]; exact HO'.out) (fun e => by have := hbo' _ e.symm; simp at this; omega) _
  case done =>
    rintro D W hD ⟨v, x1, x2, x3⟩ hK
    have c1 : W.cell? ⟨w.heap.size, 0, none⟩ = some v := by rw [blk_cell x1]; rfl
    gi_wp2
    refine ⟨by simp, .inl ⟨_, _, rfl, run_takeDeferred hK, ?_⟩⟩
    refine ⟨_, results_tmp rfl _ _ _, v, rfl, ?_, x3.trans (belowK_b (w := w2) (by omega) W D _ _ (by omega) hK rfl rfl)⟩
    exact image_told (Kd.C_below hr0 (x3.trans (belowK_b (w := w2) (by omega) W D _ _ (by omega) hK rfl rfl))) _ rfl (fun x hx => image_spans_le hx) (own_other x2 (grownBy_putObj' _ _ _) (.inr fun e => by have := own_base x2 D e; omega))
end

end Go.Proofs.Ytfgbcpdlhdgofaa.Px

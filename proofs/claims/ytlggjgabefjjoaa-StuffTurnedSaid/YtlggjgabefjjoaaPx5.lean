-- Written by myprint.py, a program of this session's, over the kit's print.py; not a text of print.sh's own.
import Derived.Test.YtlggjgabefjjoaaPx0
import Derived.Test.YtlggjgabefjjoaaPx1
import Derived.Test.YtlggjgabefjjoaaPx2
namespace Go.Proofs.Ytlggjgabefjjoaa.Px
open Go.RowKit Go.Proofs.YtlggjgabefjjoaaW.PrintWords Go.Proofs.YtlggjgabefjjoaaW.PrintLast Go.Proofs.YtlggjgabefjjoaaW.PrintMore
attribute [local go_sem] max2_int min2_int max_two min_two max_three min_three max_four min_four   -- for this text's walks alone
set_option linter.unusedVariables false
set_option linter.unusedSimpArgs false

/-! ### phaetonlaw03_StuffParts: function 9 -/
def phaetonlaw03_StuffParts.f (k : Nat) (l0 : List Int) (a1 : Int) : Option (Bool) := (phaetonlaw03_head.f k).bind fun t330 => ((phaetonref03_Bits.f k l0 300).bind fun t331 => (if (wrap64 ((t331.length : Int) + 1)) = 0 then (none) else ((stuff_Stuff.f t331).bind fun t334 => (if 0 ≤ (Int.tmod (wrap64 (a1)) (wrap64 ((t331.length : Int) + 1))) then (if (Int.tmod (wrap64 (a1)) (wrap64 ((t331.length : Int) + 1))) ≤ (t331.length : Int) then ((stuff_Stuff.f (t331.take ((Int.tmod (wrap64 (a1)) (wrap64 ((t331.length : Int) + 1))) : Int).toNat)).bind fun t341 => ((stuff_Strip.f t331).bind fun bt344 => ((stuff_Strip.f (t331.take ((Int.tmod (wrap64 (a1)) (wrap64 ((t331.length : Int) + 1))) : Int).toNat)).bind fun bt352 => (if (t341.length : Int) ≤ (t334.length : Int) then (if 0 ≤ (t341.length : Int) then ((phaetonref03_Ints.f k (t334.take ((t341.length : Int) : Int).toNat) t341).bind fun t360 => (if t360 = true then (if (bt352.1.length : Int) ≤ (bt344.1.length : Int) then (if 0 ≤ (bt352.1.length : Int) then ((phaetonref03_Ints.f k (bt344.1.take ((bt352.1.length : Int) : Int).toNat) bt352.1).bind fun t365 => (if t365 = true then (if t330 = true then (some true) else (none)) else (none))) else (none)) else (none)) else (none))) else (none)) else (none))))) else (none)) else (none)))))
theorem phaetonlaw03_StuffParts.mono : ∀ a0 a1 k, LeO (phaetonlaw03_StuffParts.f k a0 a1) (phaetonlaw03_StuffParts.f (k + 1) a0 a1) := by
  intro a0 a1 k
  unfold phaetonlaw03_StuffParts.f
  repeat' first
      | (with_reducible exact phaetonlaw03_head.mono _)
      | (with_reducible exact phaetonref03_Bits.mono _ _ _)
      | (with_reducible exact phaetonref03_Ints.mono _ _ _)
      | (with_reducible exact LeO.refl _)
      | (with_reducible exact LeO.none _)
      | (with_reducible refine LeO.ite ?_ ?_)
      | (with_reducible refine LeO.bind ?_ (fun _ => ?_))
      | exact phaetonlaw03_head.mono _
      | exact phaetonref03_Bits.mono _ _ _
      | exact phaetonref03_Ints.mono _ _ _
      | exact LeO.none _
      | refine LeO.ite ?_ ?_
      | refine LeO.bind ?_ (fun _ => ?_)
def phaetonlaw03_StuffParts.T4 : Bool × List (List Nat × List Nat) := (true, [([], []), ([0], [0]), ([], []), ([], []), ([2, 3], [2, 3]), ([4, 1], [4]), ([1, 5, 0, 1], [1]), ([5, 6, 0, 1, 2, 3, 4, 5, 6], [5])])
def phaetonlaw03_StuffParts.B4 : List Nat := [0, 1, 0, 0, 12, 31, 63, 127]
theorem phaetonlaw03_StuffParts.tab4 : rtab .any (opsOf Try.f9 4) = phaetonlaw03_StuffParts.T4 := by kernel_rfl
theorem phaetonlaw03_StuffParts.bits4 : waitsOk phaetonlaw03_StuffParts.T4.2 phaetonlaw03_StuffParts.B4 = true := by kernel_rfl
set_option maxHeartbeats 8000000 in
set_option maxRecDepth 100000 in
theorem phaetonlaw03_StuffParts.calls (k : Nat) (A0 : Option Addr) (c0 : Nat) (l0 : List Int) (a1 : Int) (r : Bool) (w : World) (hr0 : Kd.C (Kd.int .i64) w A0 l0.length l0) (hc0 : l0.length ≤ c0) (h : phaetonlaw03_StuffParts.f k l0 a1 = some r) :
    Calls Try.prog 9 #[.slice A0 l0.length c0, .int .u16 a1] w fun e w' => e = .returned (.bool r) ∧ Below w.heap.size w w' := by
  have HR0 := Aside0.mk hr0
  have HC0 := Aside0.mk hc0
  clear hr0 hc0
  have HB := Aside0.mk (Below.refl w.heap.size w)
  have H : ((phaetonlaw03_head.f k).bind fun t330 => ((phaetonref03_Bits.f k l0 300).bind fun t331 => (if (wrap64 ((t331.length : Int) + 1)) = 0 then (none) else ((stuff_Stuff.f t331).bind fun t334 => (if 0 ≤ (Int.tmod (wrap64 (a1)) (wrap64 ((t331.length : Int) + 1))) then (if (Int.tmod (wrap64 (a1)) (wrap64 ((t331.length : Int) + 1))) ≤ (t331.length : Int) then ((stuff_Stuff.f (t331.take ((Int.tmod (wrap64 (a1)) (wrap64 ((t331.length : Int) + 1))) : Int).toNat)).bind fun t341 => ((stuff_Strip.f t331).bind fun bt344 => ((stuff_Strip.f (t331.take ((Int.tmod (wrap64 (a1)) (wrap64 ((t331.length : Int) + 1))) : Int).toNat)).bind fun bt352 => (if (t341.length : Int) ≤ (t334.length : Int) then (if 0 ≤ (t341.length : Int) then ((phaetonref03_Ints.f k (t334.take ((t341.length : Int) : Int).toNat) t341).bind fun t360 => (if t360 = true then (if (bt352.1.length : Int) ≤ (bt344.1.length : Int) then (if 0 ≤ (bt352.1.length : Int) then ((phaetonref03_Ints.f k (bt344.1.take ((bt352.1.length : Int) : Int).toNat) bt352.1).bind fun t365 => (if t365 = true then (if t330 = true then (some true) else (none)) else (none))) else (none)) else (none)) else (none))) else (none)) else (none))))) else (none)) else (none)))))) = some r := h
  clear h
  replace H := Option.bind_eq_some_iff.mp H
  obtain ⟨t330, A30, H⟩ := H
  replace H : ((phaetonref03_Bits.f k l0 300).bind fun t331 => (if (wrap64 ((t331.length : Int) + 1)) = 0 then (none) else ((stuff_Stuff.f t331).bind fun t334 => (if 0 ≤ (Int.tmod (wrap64 (a1)) (wrap64 ((t331.length : Int) + 1))) then (if (Int.tmod (wrap64 (a1)) (wrap64 ((t331.length : Int) + 1))) ≤ (t331.length : Int) then ((stuff_Stuff.f (t331.take ((Int.tmod (wrap64 (a1)) (wrap64 ((t331.length : Int) + 1))) : Int).toNat)).bind fun t341 => ((stuff_Strip.f t331).bind fun bt344 => ((stuff_Strip.f (t331.take ((Int.tmod (wrap64 (a1)) (wrap64 ((t331.length : Int) + 1))) : Int).toNat)).bind fun bt352 => (if (t341.length : Int) ≤ (t334.length : Int) then (if 0 ≤ (t341.length : Int) then ((phaetonref03_Ints.f k (t334.take ((t341.length : Int) : Int).toNat) t341).bind fun t360 => (if t360 = true then (if (bt352.1.length : Int) ≤ (bt344.1.length : Int) then (if 0 ≤ (bt352.1.length : Int) then ((phaetonref03_Ints.f k (bt344.1.take ((bt352.1.length : Int) : Int).toNat) bt352.1).bind fun t365 => (if t365 = true then (if t330 = true then (some true) else (none)) else (none))) else (none)) else (none)) else (none))) else (none)) else (none))))) else (none)) else (none))))) = some r := H
  have A3 := Aside0.mk A30
  clear A30
  replace H := Option.bind_eq_some_iff.mp H
  obtain ⟨t331, A40, H⟩ := H
  replace H : (if (wrap64 ((t331.length : Int) + 1)) = 0 then (none) else ((stuff_Stuff.f t331).bind fun t334 => (if 0 ≤ (Int.tmod (wrap64 (a1)) (wrap64 ((t331.length : Int) + 1))) then (if (Int.tmod (wrap64 (a1)) (wrap64 ((t331.length : Int) + 1))) ≤ (t331.length : Int) then ((stuff_Stuff.f (t331.take ((Int.tmod (wrap64 (a1)) (wrap64 ((t331.length : Int) + 1))) : Int).toNat)).bind fun t341 => ((stuff_Strip.f t331).bind fun bt344 => ((stuff_Strip.f (t331.take ((Int.tmod (wrap64 (a1)) (wrap64 ((t331.length : Int) + 1))) : Int).toNat)).bind fun bt352 => (if (t341.length : Int) ≤ (t334.length : Int) then (if 0 ≤ (t341.length : Int) then ((phaetonref03_Ints.f k (t334.take ((t341.length : Int) : Int).toNat) t341).bind fun t360 => (if t360 = true then (if (bt352.1.length : Int) ≤ (bt344.1.length : Int) then (if 0 ≤ (bt352.1.length : Int) then ((phaetonref03_Ints.f k (bt344.1.take ((bt352.1.length : Int) : Int).toNat) bt352.1).bind fun t365 => (if t365 = true then (if t330 = true then (some true) else (none)) else (none))) else (none)) else (none)) else (none))) else (none)) else (none))))) else (none)) else (none)))) = some r := H
  have A4 := Aside0.mk A40
  clear A40
  by_cases c5 : (wrap64 ((t331.length : Int) + 1)) = 0
  · rw [if_pos c5] at H
    exact absurd H (by simp)
  · rw [if_neg c5] at H
    have c5b0 : ((wrap64 ((t331.length : Int) + 1)) == 0) = false := beq_eq_false_iff_ne.mpr c5
    have c5b1 : ((wrap64 ((t331.length : Int) + 1)) != 0) = true := bne_iff_ne.mpr c5
    replace H := Option.bind_eq_some_iff.mp H
    obtain ⟨t334, A60, H⟩ := H
    replace H : (if 0 ≤ (Int.tmod (wrap64 (a1)) (wrap64 ((t331.length : Int) + 1))) then (if (Int.tmod (wrap64 (a1)) (wrap64 ((t331.length : Int) + 1))) ≤ (t331.length : Int) then ((stuff_Stuff.f (t331.take ((Int.tmod (wrap64 (a1)) (wrap64 ((t331.length : Int) + 1))) : Int).toNat)).bind fun t341 => ((stuff_Strip.f t331).bind fun bt344 => ((stuff_Strip.f (t331.take ((Int.tmod (wrap64 (a1)) (wrap64 ((t331.length : Int) + 1))) : Int).toNat)).bind fun bt352 => (if (t341.length : Int) ≤ (t334.length : Int) then (if 0 ≤ (t341.length : Int) then ((phaetonref03_Ints.f k (t334.take ((t341.length : Int) : Int).toNat) t341).bind fun t360 => (if t360 = true then (if (bt352.1.length : Int) ≤ (bt344.1.length : Int) then (if 0 ≤ (bt352.1.length : Int) then ((phaetonref03_Ints.f k (bt344.1.take ((bt352.1.length : Int) : Int).toNat) bt352.1).bind fun t365 => (if t365 = true then (if t330 = true then (some true) else (none)) else (none))) else (none)) else (none)) else (none))) else (none)) else (none))))) else (none)) else (none)) = some r := H
    have A6 := Aside0.mk A60
    clear A60
    obtain ⟨ji7, hji7⟩ : ∃ j_ : Int, (Int.tmod (wrap64 (a1)) (wrap64 ((t331.length : Int) + 1))) = j_ := ⟨_, rfl⟩
    replace H : (if 0 ≤ (ji7) then (if (ji7) ≤ (t331.length : Int) then ((stuff_Stuff.f (t331.take ((ji7) : Int).toNat)).bind fun t341 => ((stuff_Strip.f t331).bind fun bt344 => ((stuff_Strip.f (t331.take ((ji7) : Int).toNat)).bind fun bt352 => (if (t341.length : Int) ≤ (t334.length : Int) then (if 0 ≤ (t341.length : Int) then ((phaetonref03_Ints.f k (t334.take ((t341.length : Int) : Int).toNat) t341).bind fun t360 => (if t360 = true then (if (bt352.1.length : Int) ≤ (bt344.1.length : Int) then (if 0 ≤ (bt352.1.length : Int) then ((phaetonref03_Ints.f k (bt344.1.take ((bt352.1.length : Int) : Int).toNat) bt352.1).bind fun t365 => (if t365 = true then (if t330 = true then (some true) else (none)) else (none))) else (none)) else (none)) else (none))) else (none)) else (none))))) else (none)) else (none)) = some r := by first | (rw [hji7] at H; exact H) | (simp only [hji7] at H ⊢; exact H)
    (try rw [hji7] at A3)
    (try rw [hji7] at A4)
    (try rw [hji7] at A6)
    by_cases c8 : 0 ≤ (ji7)
    · rw [if_pos c8] at H
      have c8b0 := eq_true c8
      have c8b1 : decide (0 ≤ (ji7)) = true := decide_eq_true c8
      have c8m : max (ji7) 0 = (ji7) := by omega
      clear c8
      by_cases c9 : (ji7) ≤ (t331.length : Int)
      · rw [if_pos c9] at H
        have c9b0 := eq_true c9
        have c9b1 : decide ((ji7) ≤ (t331.length : Int)) = true := decide_eq_true c9
        clear c9
        obtain ⟨y337, hy337⟩ : ∃ y_ : List Int, y_ = (t331.take ((ji7) : Int).toNat) := ⟨_, rfl⟩
        replace H : ((stuff_Stuff.f y337).bind fun t341 => ((stuff_Strip.f t331).bind fun bt344 => ((stuff_Strip.f (t331.take ((ji7) : Int).toNat)).bind fun bt352 => (if (t341.length : Int) ≤ (t334.length : Int) then (if 0 ≤ (t341.length : Int) then ((phaetonref03_Ints.f k (t334.take ((t341.length : Int) : Int).toNat) t341).bind fun t360 => (if t360 = true then (if (bt352.1.length : Int) ≤ (bt344.1.length : Int) then (if 0 ≤ (bt352.1.length : Int) then ((phaetonref03_Ints.f k (bt344.1.take ((bt352.1.length : Int) : Int).toNat) bt352.1).bind fun t365 => (if t365 = true then (if t330 = true then (some true) else (none)) else (none))) else (none)) else (none)) else (none))) else (none)) else (none))))) = some r := by first | (rw [hy337]; with_reducible exact H) | (have H2_ := (Option.bind_some _ _).symm.trans H; rw [hy337]; with_reducible exact H2_) | (have H2_ := (Option.bind_some _ _).symm.trans H; with_reducible exact H2_) | with_reducible exact H | (rw [hy337]; exact H) | exact H
        have Ny337 := Aside0.mk hy337
        clear hy337
        replace H := Option.bind_eq_some_iff.mp H
        obtain ⟨t341, A100, H⟩ := H
        replace H : ((stuff_Strip.f t331).bind fun bt344 => ((stuff_Strip.f (t331.take ((ji7) : Int).toNat)).bind fun bt352 => (if (t341.length : Int) ≤ (t334.length : Int) then (if 0 ≤ (t341.length : Int) then ((phaetonref03_Ints.f k (t334.take ((t341.length : Int) : Int).toNat) t341).bind fun t360 => (if t360 = true then (if (bt352.1.length : Int) ≤ (bt344.1.length : Int) then (if 0 ≤ (bt352.1.length : Int) then ((phaetonref03_Ints.f k (bt344.1.take ((bt352.1.length : Int) : Int).toNat) bt352.1).bind fun t365 => (if t365 = true then (if t330 = true then (some true) else (none)) else (none))) else (none)) else (none)) else (none))) else (none)) else (none)))) = some r := H
        have A10 := Aside0.mk A100
        clear A100
        replace H := Option.bind_eq_some_iff.mp H
        obtain ⟨⟨t344, t345⟩, A110, H⟩ := H
        replace H : ((stuff_Strip.f (t331.take ((ji7) : Int).toNat)).bind fun bt352 => (if (t341.length : Int) ≤ (t334.length : Int) then (if 0 ≤ (t341.length : Int) then ((phaetonref03_Ints.f k (t334.take ((t341.length : Int) : Int).toNat) t341).bind fun t360 => (if t360 = true then (if (bt352.1.length : Int) ≤ (t344.length : Int) then (if 0 ≤ (bt352.1.length : Int) then ((phaetonref03_Ints.f k (t344.take ((bt352.1.length : Int) : Int).toNat) bt352.1).bind fun t365 => (if t365 = true then (if t330 = true then (some true) else (none)) else (none))) else (none)) else (none)) else (none))) else (none)) else (none))) = some r := H
        have A11 := Aside0.mk A110
        clear A110
        have c12b0 := eq_true (of_decide_eq_true (by first | (with_reducible assumption) | assumption) : 0 ≤ (ji7))
        have c13b0 := eq_true (of_decide_eq_true (by first | (with_reducible assumption) | assumption) : (ji7) ≤ (t331.length : Int))
        obtain ⟨y348, hy348⟩ : ∃ y_ : List Int, y_ = (t331.take ((ji7) : Int).toNat) := ⟨_, rfl⟩
        replace H : ((stuff_Strip.f y348).bind fun bt352 => (if (t341.length : Int) ≤ (t334.length : Int) then (if 0 ≤ (t341.length : Int) then ((phaetonref03_Ints.f k (t334.take ((t341.length : Int) : Int).toNat) t341).bind fun t360 => (if t360 = true then (if (bt352.1.length : Int) ≤ (t344.length : Int) then (if 0 ≤ (bt352.1.length : Int) then ((phaetonref03_Ints.f k (t344.take ((bt352.1.length : Int) : Int).toNat) bt352.1).bind fun t365 => (if t365 = true then (if t330 = true then (some true) else (none)) else (none))) else (none)) else (none)) else (none))) else (none)) else (none))) = some r := by first | (rw [hy348]; with_reducible exact H) | (have H2_ := (Option.bind_some _ _).symm.trans H; rw [hy348]; with_reducible exact H2_) | (have H2_ := (Option.bind_some _ _).symm.trans H; with_reducible exact H2_) | with_reducible exact H | (rw [hy348]; exact H) | exact H
        have Ny348 := Aside0.mk hy348
        clear hy348
        replace H := Option.bind_eq_some_iff.mp H
        obtain ⟨⟨t352, t353⟩, A140, H⟩ := H
        replace H : (if (t341.length : Int) ≤ (t334.length : Int) then (if 0 ≤ (t341.length : Int) then ((phaetonref03_Ints.f k (t334.take ((t341.length : Int) : Int).toNat) t341).bind fun t360 => (if t360 = true then (if (t352.length : Int) ≤ (t344.length : Int) then (if 0 ≤ (t352.length : Int) then ((phaetonref03_Ints.f k (t344.take ((t352.length : Int) : Int).toNat) t352).bind fun t365 => (if t365 = true then (if t330 = true then (some true) else (none)) else (none))) else (none)) else (none)) else (none))) else (none)) else (none)) = some r := H
        have A14 := Aside0.mk A140
        clear A140
        by_cases c15 : (t341.length : Int) ≤ (t334.length : Int)
        · rw [if_pos c15] at H
          have c15b0 : decide ((t341.length : Int) ≤ (t334.length : Int)) = true := decide_eq_true c15
          have c15b1 : decide (t341.length ≤ t334.length) = true := decide_eq_true (Int.ofNat_le.mp c15)
          clear c15
          by_cases c16 : 0 ≤ (t341.length : Int)
          · rw [if_pos c16] at H
            have c16b0 := eq_true c16
            have c16b1 : decide (0 ≤ (t341.length : Int)) = true := decide_eq_true c16
            clear c16
            have c17b0 := eq_true (of_decide_eq_true (by first | (with_reducible assumption) | assumption) : (t341.length : Int) ≤ (t334.length : Int))
            obtain ⟨y356, hy356⟩ : ∃ y_ : List Int, y_ = (t334.take ((t341.length : Int) : Int).toNat) := ⟨_, rfl⟩
            replace H : ((phaetonref03_Ints.f k y356 t341).bind fun t360 => (if t360 = true then (if (t352.length : Int) ≤ (t344.length : Int) then (if 0 ≤ (t352.length : Int) then ((phaetonref03_Ints.f k (t344.take ((t352.length : Int) : Int).toNat) t352).bind fun t365 => (if t365 = true then (if t330 = true then (some true) else (none)) else (none))) else (none)) else (none)) else (none))) = some r := by first | (rw [hy356]; with_reducible exact H) | (have H2_ := (Option.bind_some _ _).symm.trans H; rw [hy356]; with_reducible exact H2_) | (have H2_ := (Option.bind_some _ _).symm.trans H; with_reducible exact H2_) | with_reducible exact H | (rw [hy356]; exact H) | exact H
            have Ny356 := Aside0.mk hy356
            clear hy356
            replace H := Option.bind_eq_some_iff.mp H
            obtain ⟨t360, A180, H⟩ := H
            replace H : (if t360 = true then (if (t352.length : Int) ≤ (t344.length : Int) then (if 0 ≤ (t352.length : Int) then ((phaetonref03_Ints.f k (t344.take ((t352.length : Int) : Int).toNat) t352).bind fun t365 => (if t365 = true then (if t330 = true then (some true) else (none)) else (none))) else (none)) else (none)) else (none)) = some r := H
            have A18 := Aside0.mk A180
            clear A180
            by_cases c19 : t360 = true
            · subst c19
              have H1 : (if (t352.length : Int) ≤ (t344.length : Int) then (if 0 ≤ (t352.length : Int) then ((phaetonref03_Ints.f k (t344.take ((t352.length : Int) : Int).toNat) t352).bind fun t365 => (if t365 = true then (if t330 = true then (some true) else (none)) else (none))) else (none)) else (none)) = some r := by rw [if_pos rfl] at H; exact H
              clear H
              have H := H1
              clear H1
              by_cases c20 : (t352.length : Int) ≤ (t344.length : Int)
              · rw [if_pos c20] at H
                have c20b0 : decide ((t352.length : Int) ≤ (t344.length : Int)) = true := decide_eq_true c20
                have c20b1 : decide (t352.length ≤ t344.length) = true := decide_eq_true (Int.ofNat_le.mp c20)
                clear c20
                by_cases c21 : 0 ≤ (t352.length : Int)
                · rw [if_pos c21] at H
                  have c21b0 := eq_true c21
                  have c21b1 : decide (0 ≤ (t352.length : Int)) = true := decide_eq_true c21
                  clear c21
                  have c22b0 := eq_true (of_decide_eq_true (by first | (with_reducible assumption) | assumption) : (t352.length : Int) ≤ (t344.length : Int))
                  obtain ⟨y361, hy361⟩ : ∃ y_ : List Int, y_ = (t344.take ((t352.length : Int) : Int).toNat) := ⟨_, rfl⟩
                  replace H : ((phaetonref03_Ints.f k y361 t352).bind fun t365 => (if t365 = true then (if t330 = true then (some true) else (none)) else (none))) = some r := by first | (rw [hy361]; with_reducible exact H) | (have H2_ := (Option.bind_some _ _).symm.trans H; rw [hy361]; with_reducible exact H2_) | (have H2_ := (Option.bind_some _ _).symm.trans H; with_reducible exact H2_) | with_reducible exact H | (rw [hy361]; exact H) | exact H
                  have Ny361 := Aside0.mk hy361
                  clear hy361
                  replace H := Option.bind_eq_some_iff.mp H
                  obtain ⟨t365, A230, H⟩ := H
                  replace H : (if t365 = true then (if t330 = true then (some true) else (none)) else (none)) = some r := H
                  have A23 := Aside0.mk A230
                  clear A230
                  by_cases c24 : t365 = true
                  · subst c24
                    have H1 : (if t330 = true then (some true) else (none)) = some r := by rw [if_pos rfl] at H; exact H
                    clear H
                    have H := H1
                    clear H1
                    by_cases c25 : t330 = true
                    · subst c25
                      have H1 : (some true) = some r := by rw [if_pos rfl] at H; exact H
                      clear H
                      have H := H1
                      clear H1
                      obtain rfl := Option.some.inj H
                      go_enter Try.func9, Try.ntmps9
                      try go_wp2_with (first | ((with_reducible refine gate_callee (f := 11) rfl ?_); refine goesL_ (some 13) rfl rfl Try.func11 (by kernel_rfl) rfl #[] rfl (by (try simp only [List.map_toArray, List.map_cons, List.map_nil]); first | done | rfl | (simp only [List.length_drop, List.length_take]; rfl)) ?_; (with_reducible refine (phaetonlaw03_head.calls k  true _ A3.out).mono ?_); rintro e w26 ⟨rfl, hb⟩; refine ⟨_, rfl, ?_⟩; have n0_ := Aside0.mk (below_step (by repeat (first | (with_reducible first | exact HB.out | apply below_alloc | apply pw_below_drewN | apply below_drew1) | exact HB.out)) hb); clear HB; have HB := n0_; clear n0_; (try clear hb); (try clear hb2); (try clear hk); (try clear hi)) | ((with_reducible refine gate_callee (f := 12) rfl ?_); refine goesL_ (some 15) rfl rfl Try.func12 (by kernel_rfl) rfl #[.slice A0 l0.length c0, .int .i64 300] rfl (by (try simp only [List.map_toArray, List.map_cons, List.map_nil]); first | done | rfl | (simp only [List.length_drop, List.length_take]; rfl)) ?_; (with_reducible refine (phaetonref03_Bits.calls k _ _ l0 300 t331 _ ?side1 ?side2 A4.out).mono ?_); (case side1 => repeat (first | exact (Kd.C_below HR0.out HB.out) | (with_reducible refine Kd.C_alloc ?_ _) | (with_reducible refine Kd.C_drewN ?_ _) | (with_reducible refine Kd.C_drew ?_))); (case side2 => exact HC0.out); rintro e w27 ⟨v332, rfl, ho0, hb⟩; refine ⟨_, rfl, ?_⟩; have n0_ := Aside0.mk (Kd.R_lower ho0 (below_size (by repeat (first | (with_reducible first | exact HB.out | apply below_alloc | apply pw_below_drewN | apply below_drew1) | exact HB.out)))); have n1_ := Aside0.mk (below_step (by repeat (first | (with_reducible first | exact HB.out | apply below_alloc | apply pw_below_drewN | apply below_drew1) | exact HB.out)) hb); clear HB; have HO333 := n0_; have HB := n1_; clear n0_ n1_; (try clear hb); (try clear hb2); (try clear hk); (try clear hi); (try clear ho0); obtain ⟨Ao28, co28, eo28⟩ := Kd.R_slice HO333.out; subst eo28))
                      have n0_ := Aside0.mk (Kd.R_drew HO333.out)
                      have n1_ := Aside0.mk (below_drew1 HB.out)
                      clear HO333
                      clear HB
                      have HO333 := n0_
                      have HB := n1_
                      clear n0_ n1_
                      have q30 : ((ji7) : Int) ≤ ((t331.length : Int) : Int) := of_decide_eq_true (by first | (with_reducible assumption) | assumption)
                      obtain ⟨i030, hi030, _, hsz30, _⟩ := info_parts info3
                      have hroom30 : t331.length ≤ co28 := (Kd.R_reads' HO333.out).2.1
                      have hC30 : Kd.C (Kd.int .i64) _ Ao28 t331.length t331 := (Kd.R_reads' HO333.out).2.2
                      have hcut30 := cut_to (P := Try.prog) 22 3 .i64 Try.underlying22 hi030 Ao28 t331.length co28 (ji7) (of_decide_eq_true (by first | (with_reducible assumption) | assumption)) q30 hroom30
                      have hr30 := Kd.C_take (m := ((ji7) : Int).toNat) hC30 (by omega)
                      have hy30 : y337.length = ((ji7) : Int).toNat := (by rw [Ny337.out, List.length_take]; omega)
                      rw [← Ny337.out] at hr30
                      rw [← hy30] at hcut30
                      have HR340 := Aside0.mk hr30
                      have HC340 := Aside0.mk (show y337.length ≤ co28 from by omega)
                      clear hr30 hC30 hroom30 hi030 hsz30
                      have KY30 := Aside0.mk hy30
                      clear hy30
                      have KL30 := Aside0.mk (show ((ji7) : Int).toNat ≤ t331.length from by omega)
                      replace q30 := eq_true q30
                      refine start_ (n := 8) (S := fun w' => True) (ds := []) #[false, false, false, false, false, false, false, false] (by kernel_rfl) rfl rfl trivial (fun hHeld => ?_); refine with_tabW phaetonlaw03_StuffParts.tab4 phaetonlaw03_StuffParts.bits4 (fun HT_ HW_ => ?_)
                      generalize w27.drew = w29 at HO333 HB HR340 hHeld ⊢
                      refine pure_ (i := 0) (N := some 22) (v := ?_) (a' := ?_) #[true, false, false, false, false, false, false, false] rfl rfl (any_of HT_.out (by kernel_rfl)) (fun _ _ _ h => h) (Or.inl ⟨by rfl, ?_⟩) ?_ ?_
                      rotate_left
                      · intro w'
                        go_simp
                        with_reducible rfl
                      rotate_left
                      · simp only [Act.put, List.setIfInBounds_toArray, List.set_cons_zero, List.set_cons_succ, i64_w, i32_w]
                        rfl
                      refine pure_ (i := 2) (N := some 24) (v := ?_) (a' := ?_) #[true, false, true, false, false, false, false, false] rfl rfl (any_of HT_.out (by kernel_rfl)) (fun _ _ _ h => h) (Or.inl ⟨by rfl, ?_⟩) ?_ ?_
                      rotate_left
                      · intro w'
                        go_simp
                        with_reducible rfl
                      rotate_left
                      · simp only [Act.put, List.setIfInBounds_toArray, List.set_cons_zero, List.set_cons_succ, i64_w, i32_w]
                        rfl
                      refine pure_ (i := 3) (N := some 25) (v := ?_) (a' := ?_) #[true, false, true, true, false, false, false, false] rfl rfl (any_of HT_.out (by kernel_rfl)) (fun _ _ _ h => h) (Or.inl ⟨by rfl, ?_⟩) ?_ ?_
                      rotate_left
                      · intro w'
                        go_simp
                        with_reducible rfl
                      rotate_left
                      · simp only [Act.put, List.setIfInBounds_toArray, List.set_cons_zero, List.set_cons_succ, i64_w, i32_w]
                        rfl
                      refine pure_ (i := 4) (N := some 26) (v := ?_) (a' := ?_) #[true, false, true, true, true, false, false, false] rfl rfl (any_of HT_.out (by kernel_rfl)) (fun _ _ _ h => h) (Or.inl ⟨by rfl, ?_⟩) ?_ ?_
                      rotate_left
                      · intro w'
                        go_simp
                        with_reducible rfl
                      rotate_left
                      · simp only [Act.put, List.setIfInBounds_toArray, List.set_cons_zero, List.set_cons_succ, i64_w, i32_w]
                        rfl
                      refine one_ (i := 1) (N := some 23) #[true, true, true, true, true, false, false, false] rfl rfl (one_of HT_.out (by kernel_rfl)) (by decide) (fun K hK => ?_)
                      refine goes_ Try.func16 (by kernel_rfl) rfl #[.slice Ao28 t331.length co28] (by rfl) rfl rfl (by (try simp only [List.map_toArray, List.map_cons, List.map_nil]); first | done | rfl | (simp only [List.length_drop, List.length_take]; rfl)) ?_
                      with_reducible refine (stuff_Stuff.calls _ _ t331 t334 _ ?side1 ?side2 A6.out).mono ?_
                      (case side1 => repeat (first | exact (Kd.R_reads' HO333.out).2.2 | (with_reducible refine Kd.C_alloc ?_ _) | (with_reducible refine Kd.C_drewN ?_ _) | (with_reducible refine Kd.C_drew ?_)))
                      (case side2 => exact (Kd.R_reads' HO333.out).2.1)
                      rintro e w31 ⟨v335, rfl, ho0, hb⟩
                      refine ⟨_, rfl, ?_⟩
                      have n0_ := Aside0.mk (Kd.R_elder' (by (with_reducible repeat (first | apply Kd.R_alloc | apply Kd.R_drewN | apply Kd.R_drew)); exact HO333.out) (Kd.R_base ho0) hb)
                      have n1_ := Aside0.mk (Kd.R_lower (Kd.R_new' ho0 (Kd.R_lt (by (with_reducible repeat (first | apply Kd.R_alloc | apply Kd.R_drewN | apply Kd.R_drew)); exact HO333.out))) (below_size (by repeat (first | (with_reducible first | exact HB.out | apply below_alloc | apply pw_below_drewN | apply below_drew1) | exact HB.out))))
                      have n2_ := Aside0.mk (Kd.C_below (by repeat (first | (with_reducible exact HR340.out) | (with_reducible refine Kd.C_alloc ?_ _) | (with_reducible refine Kd.C_drewN ?_ _) | (with_reducible refine Kd.C_drew ?_) | exact HR340.out)) hb)
                      have n3_ := Aside0.mk (below_step (by repeat (first | (with_reducible first | exact HB.out | apply below_alloc | apply pw_below_drewN | apply below_drew1) | exact HB.out)) hb)
                      clear HO333
                      clear HR340
                      clear HB
                      have HO333 := n0_
                      have HO336 := n1_
                      have HR340 := n2_
                      have HB := n3_
                      clear n0_ n1_ n2_ n3_
                      (try clear hb)
                      (try clear hb2)
                      (try clear hk)
                      (try clear hi)
                      (try clear ho0)
                      refine hK.out _ _ trivial (fun hHeld => ?_)
                      clear hK K
                      refine norm_ (a' := ?_) ?_ ?_
                      rotate_left
                      · show Act.put _ (some 23) _ = _
                        simp only [Act.put, List.setIfInBounds_toArray, List.set_cons_zero, List.set_cons_succ, i64_w, i32_w]
                        rfl
                      refine one_ (i := 5) (N := some 27) #[true, true, true, true, true, true, false, false] rfl rfl (one_of HT_.out (by kernel_rfl)) (by decide) (fun K hK => ?_)
                      refine goes_ Try.func16 (by kernel_rfl) rfl #[.slice Ao28 y337.length co28] (by rfl) rfl rfl (by (try simp only [List.map_toArray, List.map_cons, List.map_nil]); first | done | rfl | (simp only [List.length_drop, List.length_take]; rfl)) ?_
                      with_reducible refine (stuff_Stuff.calls _ _ y337 t341 _ ?side1 ?side2 A10.out).mono ?_
                      (case side1 => repeat (first | exact (by repeat (first | (with_reducible exact HR340.out) | (with_reducible refine Kd.C_alloc ?_ _) | (with_reducible refine Kd.C_drewN ?_ _) | (with_reducible refine Kd.C_drew ?_) | exact HR340.out)) | (with_reducible refine Kd.C_alloc ?_ _) | (with_reducible refine Kd.C_drewN ?_ _) | (with_reducible refine Kd.C_drew ?_)))
                      (case side2 => exact HC340.out)
                      rintro e w32 ⟨v342, rfl, ho0, hb⟩
                      refine ⟨_, rfl, ?_⟩
                      have n0_ := Aside0.mk (Kd.R_elder' (by (with_reducible repeat (first | apply Kd.R_alloc | apply Kd.R_drewN | apply Kd.R_drew)); exact HO333.out) (Kd.R_base ho0) hb)
                      have n1_ := Aside0.mk (Kd.R_elder' (by (with_reducible repeat (first | apply Kd.R_alloc | apply Kd.R_drewN | apply Kd.R_drew)); exact HO336.out) (Kd.R_base ho0) hb)
                      have n2_ := Aside0.mk (Kd.R_lower (Kd.R_new' (Kd.R_new' ho0 (Kd.R_lt (by (with_reducible repeat (first | apply Kd.R_alloc | apply Kd.R_drewN | apply Kd.R_drew)); exact HO333.out))) (Kd.R_lt (by (with_reducible repeat (first | apply Kd.R_alloc | apply Kd.R_drewN | apply Kd.R_drew)); exact HO336.out))) (below_size (by repeat (first | (with_reducible first | exact HB.out | apply below_alloc | apply pw_below_drewN | apply below_drew1) | exact HB.out))))
                      have n3_ := Aside0.mk (Kd.C_below (by repeat (first | (with_reducible exact HR340.out) | (with_reducible refine Kd.C_alloc ?_ _) | (with_reducible refine Kd.C_drewN ?_ _) | (with_reducible refine Kd.C_drew ?_) | exact HR340.out)) hb)
                      have n4_ := Aside0.mk (below_step (by repeat (first | (with_reducible first | exact HB.out | apply below_alloc | apply pw_below_drewN | apply below_drew1) | exact HB.out)) hb)
                      clear HO333
                      clear HO336
                      clear HR340
                      clear HB
                      have HO333 := n0_
                      have HO336 := n1_
                      have HO343 := n2_
                      have HR340 := n3_
                      have HB := n4_
                      clear n0_ n1_ n2_ n3_ n4_
                      (try clear hb)
                      (try clear hb2)
                      (try clear hk)
                      (try clear hi)
                      (try clear ho0)
                      refine hK.out _ _ trivial (fun hHeld => ?_)
                      clear hK K
                      refine norm_ (a' := ?_) ?_ ?_
                      rotate_left
                      · show Act.put _ (some 27) _ = _
                        simp only [Act.put, List.setIfInBounds_toArray, List.set_cons_zero, List.set_cons_succ, i64_w, i32_w]
                        rfl
                      refine pure_ (i := 6) (N := some 7) (v := ?_) (a' := ?_) #[true, true, true, true, true, true, true, false] rfl rfl (any_of HT_.out (by kernel_rfl)) (fun _ _ _ h => h) (Or.inl ⟨by rfl, ?_⟩) ?_ ?_
                      rotate_left
                      · intro w'
                        go_simp
                        with_reducible rfl
                      rotate_left
                      · simp only [Act.put, List.setIfInBounds_toArray, List.set_cons_zero, List.set_cons_succ, i64_w, i32_w]
                        rfl
                      refine pure_ (i := 7) (N := some 8) (v := ?_) (a' := ?_) #[true, true, true, true, true, true, true, true] rfl rfl (any_of HT_.out (by kernel_rfl)) (fun _ _ _ h => h) (Or.inl ⟨by rfl, ?_⟩) ?_ ?_
                      rotate_left
                      · intro w'
                        go_simp
                        with_reducible rfl
                      rotate_left
                      · simp only [Act.put, List.setIfInBounds_toArray, List.set_cons_zero, List.set_cons_succ, i64_w, i32_w]
                        rfl
                      refine done_ (done_of HT_.out (by kernel_rfl)) ?_
                      try go_wp2_with (first | ((with_reducible refine gate_callee (f := 13) rfl ?_); refine goesL_ (some 30) rfl rfl Try.func13 (by kernel_rfl) rfl #[.slice Ao28 t331.length co28] rfl (by (try simp only [List.map_toArray, List.map_cons, List.map_nil]); first | done | rfl | (simp only [List.length_drop, List.length_take]; rfl)) ?_; (with_reducible refine (stuff_Strip.calls _ _ t331 t344 t345 _ ?side1 ?side2 A11.out).mono ?_); (case side1 => repeat (first | exact (Kd.R_reads' HO333.out).2.2 | (with_reducible refine Kd.C_alloc ?_ _) | (with_reducible refine Kd.C_drewN ?_ _) | (with_reducible refine Kd.C_drew ?_))); (case side2 => exact (Kd.R_reads' HO333.out).2.1); rintro e w33 ⟨v346, rfl, ho0, hb⟩; refine ⟨_, rfl, ?_⟩; have n0_ := Aside0.mk (Kd.R_elder' (by (with_reducible repeat (first | apply Kd.R_alloc | apply Kd.R_drewN | apply Kd.R_drew)); exact HO333.out) (Kd.R_base ho0) hb); have n1_ := Aside0.mk (Kd.R_elder' (by (with_reducible repeat (first | apply Kd.R_alloc | apply Kd.R_drewN | apply Kd.R_drew)); exact HO336.out) (Kd.R_base ho0) hb); have n2_ := Aside0.mk (Kd.R_elder' (by (with_reducible repeat (first | apply Kd.R_alloc | apply Kd.R_drewN | apply Kd.R_drew)); exact HO343.out) (Kd.R_base ho0) hb); have n3_ := Aside0.mk (Kd.R_lower (Kd.R_new' (Kd.R_new' (Kd.R_new' ho0 (Kd.R_lt (by (with_reducible repeat (first | apply Kd.R_alloc | apply Kd.R_drewN | apply Kd.R_drew)); exact HO333.out))) (Kd.R_lt (by (with_reducible repeat (first | apply Kd.R_alloc | apply Kd.R_drewN | apply Kd.R_drew)); exact HO336.out))) (Kd.R_lt (by (with_reducible repeat (first | apply Kd.R_alloc | apply Kd.R_drewN | apply Kd.R_drew)); exact HO343.out))) (below_size (by repeat (first | (with_reducible first | exact HB.out | apply below_alloc | apply pw_below_drewN | apply below_drew1) | exact HB.out)))); have n4_ := Aside0.mk (Kd.C_below (by repeat (first | (with_reducible exact HR340.out) | (with_reducible refine Kd.C_alloc ?_ _) | (with_reducible refine Kd.C_drewN ?_ _) | (with_reducible refine Kd.C_drew ?_) | exact HR340.out)) hb); have n5_ := Aside0.mk (below_step (by repeat (first | (with_reducible first | exact HB.out | apply below_alloc | apply pw_below_drewN | apply below_drew1) | exact HB.out)) hb); clear HO333; clear HO336; clear HO343; clear HR340; clear HB; have HO333 := n0_; have HO336 := n1_; have HO343 := n2_; have HO347 := n3_; have HR340 := n4_; have HB := n5_; clear n0_ n1_ n2_ n3_ n4_ n5_; (try clear hb); (try clear hb2); (try clear hk); (try clear hi); (try clear ho0); have q34 : ((ji7) : Int) ≤ ((t331.length : Int) : Int) := of_decide_eq_true (by first | (with_reducible assumption) | assumption); obtain ⟨i034, hi034, _, hsz34, _⟩ := info_parts info3; have hroom34 : t331.length ≤ co28 := (Kd.R_reads' HO333.out).2.1; have hC34 : Kd.C (Kd.int .i64) _ Ao28 t331.length t331 := (Kd.R_reads' HO333.out).2.2; (try clear hcut30); have hcut34 := cut_to (P := Try.prog) 22 3 .i64 Try.underlying22 hi034 Ao28 t331.length co28 (ji7) (of_decide_eq_true (by first | (with_reducible assumption) | assumption)) q34 hroom34; have hr34 := Kd.C_take (m := ((ji7) : Int).toNat) hC34 (by omega); have hy34 : y348.length = ((ji7) : Int).toNat := (by rw [Ny348.out, List.length_take]; omega); rw [← Ny348.out] at hr34; rw [← hy34] at hcut34; have HR351 := Aside0.mk hr34; have HC351 := Aside0.mk (show y348.length ≤ co28 from by omega); clear hr34 hC34 hroom34 hi034 hsz34; have KY34 := Aside0.mk hy34; clear hy34; have KL34 := Aside0.mk (show ((ji7) : Int).toNat ≤ t331.length from by omega); replace q34 := eq_true q34) | ((with_reducible refine gate_callee (f := 13) rfl ?_); refine goesL_ (some 37) rfl rfl Try.func13 (by kernel_rfl) rfl #[.slice Ao28 y348.length co28] rfl (by (try simp only [List.map_toArray, List.map_cons, List.map_nil]); first | done | rfl | (simp only [List.length_drop, List.length_take]; rfl)) ?_; (with_reducible refine (stuff_Strip.calls _ _ y348 t352 t353 _ ?side1 ?side2 A14.out).mono ?_); (case side1 => repeat (first | exact (by repeat (first | (with_reducible exact HR351.out) | (with_reducible refine Kd.C_alloc ?_ _) | (with_reducible refine Kd.C_drewN ?_ _) | (with_reducible refine Kd.C_drew ?_) | exact HR351.out)) | (with_reducible refine Kd.C_alloc ?_ _) | (with_reducible refine Kd.C_drewN ?_ _) | (with_reducible refine Kd.C_drew ?_))); (case side2 => exact HC351.out); rintro e w35 ⟨v354, rfl, ho0, hb⟩; refine ⟨_, rfl, ?_⟩; have n0_ := Aside0.mk (Kd.R_elder' (by (with_reducible repeat (first | apply Kd.R_alloc | apply Kd.R_drewN | apply Kd.R_drew)); exact HO333.out) (Kd.R_base ho0) hb); have n1_ := Aside0.mk (Kd.R_elder' (by (with_reducible repeat (first | apply Kd.R_alloc | apply Kd.R_drewN | apply Kd.R_drew)); exact HO336.out) (Kd.R_base ho0) hb); have n2_ := Aside0.mk (Kd.R_elder' (by (with_reducible repeat (first | apply Kd.R_alloc | apply Kd.R_drewN | apply Kd.R_drew)); exact HO343.out) (Kd.R_base ho0) hb); have n3_ := Aside0.mk (Kd.R_elder' (by (with_reducible repeat (first | apply Kd.R_alloc | apply Kd.R_drewN | apply Kd.R_drew)); exact HO347.out) (Kd.R_base ho0) hb); have n4_ := Aside0.mk (Kd.R_lower (Kd.R_new' (Kd.R_new' (Kd.R_new' (Kd.R_new' ho0 (Kd.R_lt (by (with_reducible repeat (first | apply Kd.R_alloc | apply Kd.R_drewN | apply Kd.R_drew)); exact HO333.out))) (Kd.R_lt (by (with_reducible repeat (first | apply Kd.R_alloc | apply Kd.R_drewN | apply Kd.R_drew)); exact HO336.out))) (Kd.R_lt (by (with_reducible repeat (first | apply Kd.R_alloc | apply Kd.R_drewN | apply Kd.R_drew)); exact HO343.out))) (Kd.R_lt (by (with_reducible repeat (first | apply Kd.R_alloc | apply Kd.R_drewN | apply Kd.R_drew)); exact HO347.out))) (below_size (by repeat (first | (with_reducible first | exact HB.out | apply below_alloc | apply pw_below_drewN | apply below_drew1) | exact HB.out)))); have n5_ := Aside0.mk (Kd.C_below (by repeat (first | (with_reducible exact HR340.out) | (with_reducible refine Kd.C_alloc ?_ _) | (with_reducible refine Kd.C_drewN ?_ _) | (with_reducible refine Kd.C_drew ?_) | exact HR340.out)) hb); have n6_ := Aside0.mk (Kd.C_below (by repeat (first | (with_reducible exact HR351.out) | (with_reducible refine Kd.C_alloc ?_ _) | (with_reducible refine Kd.C_drewN ?_ _) | (with_reducible refine Kd.C_drew ?_) | exact HR351.out)) hb); have n7_ := Aside0.mk (below_step (by repeat (first | (with_reducible first | exact HB.out | apply below_alloc | apply pw_below_drewN | apply below_drew1) | exact HB.out)) hb); clear HO333; clear HO336; clear HO343; clear HO347; clear HR340; clear HR351; clear HB; have HO333 := n0_; have HO336 := n1_; have HO343 := n2_; have HO347 := n3_; have HO355 := n4_; have HR340 := n5_; have HR351 := n6_; have HB := n7_; clear n0_ n1_ n2_ n3_ n4_ n5_ n6_ n7_; (try clear hb); (try clear hb2); (try clear hk); (try clear hi); (try clear ho0); obtain ⟨Ao36, co36, eo36⟩ := Kd.R_slice HO343.out; subst eo36; obtain ⟨Ao37, co37, eo37⟩ := Kd.R_slice HO336.out; subst eo37; have q38 : ((t341.length : Int) : Int) ≤ ((t334.length : Int) : Int) := of_decide_eq_true (by first | (with_reducible assumption) | assumption); obtain ⟨i038, hi038, _, hsz38, _⟩ := info_parts info3; have hroom38 : t334.length ≤ co37 := (Kd.R_reads' HO336.out).2.1; have hC38 : Kd.C (Kd.int .i64) _ Ao37 t334.length t334 := (Kd.R_reads' HO336.out).2.2; have hcut38 := cut_to (P := Try.prog) 22 3 .i64 Try.underlying22 hi038 Ao37 t334.length co37 (t341.length : Int) (of_decide_eq_true (by first | (with_reducible assumption) | assumption)) q38 hroom38; have hr38 := Kd.C_take (m := ((t341.length : Int) : Int).toNat) hC38 (by omega); have hy38 : y356.length = ((t341.length : Int) : Int).toNat := (by rw [Ny356.out, List.length_take]; omega); rw [← Ny356.out] at hr38; rw [← hy38] at hcut38; have HR359 := Aside0.mk hr38; have HC359 := Aside0.mk (show y356.length ≤ co37 from by omega); clear hr38 hC38 hroom38 hi038 hsz38; have KY38 := Aside0.mk hy38; clear hy38; have KL38 := Aside0.mk (show ((t341.length : Int) : Int).toNat ≤ t334.length from by omega); replace q38 := eq_true q38) | (go_at_call 15; (with_reducible refine (phaetonref03_Ints.calls k _ _ y356 _ _ t341 true _ ?side1 ?side2 ?side3 ?side4 A18.out).mono ?_); (case side1 => repeat (first | exact (by repeat (first | (with_reducible exact HR359.out) | (with_reducible refine Kd.C_alloc ?_ _) | (with_reducible refine Kd.C_drewN ?_ _) | (with_reducible refine Kd.C_drew ?_) | exact HR359.out)) | (with_reducible refine Kd.C_alloc ?_ _) | (with_reducible refine Kd.C_drewN ?_ _) | (with_reducible refine Kd.C_drew ?_))); (case side2 => exact HC359.out); (case side3 => repeat (first | exact (Kd.R_reads' HO343.out).2.2 | (with_reducible refine Kd.C_alloc ?_ _) | (with_reducible refine Kd.C_drewN ?_ _) | (with_reducible refine Kd.C_drew ?_))); (case side4 => exact (Kd.R_reads' HO343.out).2.1); rintro e w' ⟨rfl, ⟨nd, rfl⟩⟩; obtain ⟨Ao39, co39, eo39⟩ := Kd.R_slice HO355.out; subst eo39; obtain ⟨Ao40, co40, eo40⟩ := Kd.R_slice HO347.out; subst eo40; have q41 : ((t352.length : Int) : Int) ≤ ((t344.length : Int) : Int) := of_decide_eq_true (by first | (with_reducible assumption) | assumption); obtain ⟨i041, hi041, _, hsz41, _⟩ := info_parts info3; have hroom41 : t344.length ≤ co40 := (Kd.R_reads' HO347.out).2.1; have hC41 : Kd.C (Kd.int .i64) _ Ao40 t344.length t344 := (Kd.R_reads' HO347.out).2.2; have hcut41 := cut_to (P := Try.prog) 22 3 .i64 Try.underlying22 hi041 Ao40 t344.length co40 (t352.length : Int) (of_decide_eq_true (by first | (with_reducible assumption) | assumption)) q41 hroom41; have hr41 := Kd.C_take (m := ((t352.length : Int) : Int).toNat) hC41 (by omega); have hy41 : y361.length = ((t352.length : Int) : Int).toNat := (by rw [Ny361.out, List.length_take]; omega); rw [← Ny361.out] at hr41; rw [← hy41] at hcut41; have HR364 := Aside0.mk hr41; have HC364 := Aside0.mk (show y361.length ≤ co40 from by omega); clear hr41 hC41 hroom41 hi041 hsz41; have KY41 := Aside0.mk hy41; clear hy41; have KL41 := Aside0.mk (show ((t352.length : Int) : Int).toNat ≤ t344.length from by omega); replace q41 := eq_true q41) | (go_at_call 15; (with_reducible refine (phaetonref03_Ints.calls k _ _ y361 _ _ t352 true _ ?side1 ?side2 ?side3 ?side4 A23.out).mono ?_); (case side1 => repeat (first | exact (by repeat (first | (with_reducible exact HR364.out) | (with_reducible refine Kd.C_alloc ?_ _) | (with_reducible refine Kd.C_drewN ?_ _) | (with_reducible refine Kd.C_drew ?_) | exact HR364.out)) | (with_reducible refine Kd.C_alloc ?_ _) | (with_reducible refine Kd.C_drewN ?_ _) | (with_reducible refine Kd.C_drew ?_))); (case side2 => exact HC364.out); (case side3 => repeat (first | exact (Kd.R_reads' HO355.out).2.2 | (with_reducible refine Kd.C_alloc ?_ _) | (with_reducible refine Kd.C_drewN ?_ _) | (with_reducible refine Kd.C_drew ?_))); (case side4 => exact (Kd.R_reads' HO355.out).2.1); rintro e w' ⟨rfl, ⟨nd, rfl⟩⟩))
                      go_ret
                      exact ⟨by first | rfl | (simp [errW_none, errW_some] <;> rfl) | (simp only [← hji7]; first | rfl | (simp [errW_none, errW_some] <;> rfl)) | (simp [*, errW_none, errW_some] <;> rfl), by repeat (first | (with_reducible first | exact HB.out | apply below_alloc | apply pw_below_drewN | apply below_drew1) | exact HB.out)⟩
                    · replace c25 := Bool.eq_false_iff.mpr c25
                      subst c25
                      have H1 : (none) = some r := by rw [if_neg (show ¬ (false = true) by decide)] at H; exact H
                      clear H
                      have H := H1
                      clear H1
                      exact absurd H (by simp)
                  · replace c24 := Bool.eq_false_iff.mpr c24
                    subst c24
                    have H1 : (none) = some r := by rw [if_neg (show ¬ (false = true) by decide)] at H; exact H
                    clear H
                    have H := H1
                    clear H1
                    exact absurd H (by simp)
                · rw [if_neg c21] at H
                  exact absurd H (by simp)
              · rw [if_neg c20] at H
                exact absurd H (by simp)
            · replace c19 := Bool.eq_false_iff.mpr c19
              subst c19
              have H1 : (none) = some r := by rw [if_neg (show ¬ (false = true) by decide)] at H; exact H
              clear H
              have H := H1
              clear H1
              exact absurd H (by simp)
          · rw [if_neg c16] at H
            exact absurd H (by simp)
        · rw [if_neg c15] at H
          exact absurd H (by simp)
      · rw [if_neg c9] at H
        exact absurd H (by simp)
    · rw [if_neg c8] at H
      exact absurd H (by simp)

/-- THE ONE PURE STATEMENT of phaetonlaw03_StuffParts: yours. -/
def phaetonlaw03_StuffParts.Pure : Prop := ∀ (l0 : List Int) (a1 : Int), l0.length ≤ maxLen → l0.length * 8 ≤ 140737488351232 → (∀ x ∈ l0, (Lit.int .i64 x).wf = true) → (Lit.int .u16 a1).wf = true → ∃ k, phaetonlaw03_StuffParts.f k l0 a1 = some true
theorem phaetonlaw03_StuffParts.walk (P : phaetonlaw03_StuffParts.Pure) (a0 : Option Addr) (len0 cap0 : Nat) (z0 : List Int) (a1 : Int) (w : World) (w0 : (a0 = none ∧ len0 = 0 ∧ cap0 = 0 ∧ z0 = []) ∨ ∃ x, a0 = some x ∧ len0 ≤ cap0 ∧ cap0 ≤ maxLen ∧ z0.length = cap0 ∧ (∀ i, i < z0.length → w.cell? (x.add i) = some (.int .i64 (z0.getD i 0))) ∧ ∀ n ∈ z0, (Lit.int .i64 n).wf = true) (y0 : len0 * 8 ≤ 140737488351232) (w1 : (Lit.int .u16 a1).wf = true) :
    Calls Try.prog 9 #[.slice a0 len0 cap0, .int .u16 a1] w fun e w' => e = .returned (.bool true) ∧ Below w.heap.size w w' := by
  obtain ⟨l0, rfl, hr0, hm0, hw0, hc0⟩ := ReadsInt.ofRowC w0
  obtain ⟨k, h⟩ := P l0 a1 hm0 y0 hw0 w1
  refine (phaetonlaw03_StuffParts.calls k _ _ l0 a1 true w (Kd.C_of_reads (d := (0 : Int)) (h1 := fun _ => rfl) hr0) hc0 h).mono ?_
  rintro e w' ⟨rfl, hd⟩
  exact ⟨rfl, hd⟩

/-! ### phaetonref03_Turned: function 20 -/
def phaetonref03_Turned.l0 : Nat → List Int → List Int → Int → Option (List Int)
  | 0, _, _, _ => none
  | k + 1, x0, x3, x4 => if x4 < (x0.length : Int) then (if 0 ≤ x4 then (if x3.length < 17592186044416 then (phaetonref03_Turned.l0 k x0 (x3 ++ [wrap64 (1 - (rd x0 x4))]) (wrap64 (x4 + 1))) else (none)) else (none)) else (some x3)
def phaetonref03_Turned.f (k : Nat) (l0 : List Int) : Option (List Int) := phaetonref03_Turned.l0 k l0 (([] : List Int)) 0
theorem phaetonref03_Turned.mono_l : ∀ k, (∀ y0 y1 y2, LeO (phaetonref03_Turned.l0 k y0 y1 y2) (phaetonref03_Turned.l0 (k + 1) y0 y1 y2))
  | 0 => fun _ _ _ r h => by simp [phaetonref03_Turned.l0] at h
  | k + 1 => by
    have ih0 := phaetonref03_Turned.mono_l k
    · intro y0 y1 y2
      unfold phaetonref03_Turned.l0
      repeat' first
      | (with_reducible exact ih0 _ _ _)
      | (with_reducible exact LeO.refl _)
      | (with_reducible exact LeO.none _)
      | (with_reducible refine LeO.ite ?_ ?_)
      | (with_reducible refine LeO.bind ?_ (fun _ => ?_))
      | exact ih0 _ _ _
      | exact LeO.none _
      | refine LeO.ite ?_ ?_
      | refine LeO.bind ?_ (fun _ => ?_)
theorem phaetonref03_Turned.mono : ∀ a0 k, LeO (phaetonref03_Turned.f k a0) (phaetonref03_Turned.f (k + 1) a0) := by
  intro a0 k
  have ih0 := phaetonref03_Turned.mono_l k
  unfold phaetonref03_Turned.f
  repeat' first
      | (with_reducible exact ih0 _ _ _)
      | (with_reducible exact LeO.refl _)
      | (with_reducible exact LeO.none _)
      | (with_reducible refine LeO.ite ?_ ?_)
      | (with_reducible refine LeO.bind ?_ (fun _ => ?_))
      | exact ih0 _ _ _
      | exact LeO.none _
      | refine LeO.ite ?_ ?_
      | refine LeO.bind ?_ (fun _ => ?_)
set_option maxHeartbeats 8000000 in
set_option maxRecDepth 100000 in
theorem phaetonref03_Turned.calls (k : Nat) (A0 : Option Addr) (c0 : Nat) (l0 : List Int) (r : List Int) (w : World) (hr0 : Kd.C (Kd.int .i64) w A0 l0.length l0) (hc0 : l0.length ≤ c0) (h : phaetonref03_Turned.f k l0 = some r) :
    Calls Try.prog 20 #[.slice A0 l0.length c0] w fun e w' => ∃ v0_ : Value, e = .returned (v0_) ∧ Kd.R (Kd.int .i64) 3 w' w.heap.size (fun _ => True) v0_ r ∧ Below w.heap.size w w' := by
  have HR0 := Aside0.mk hr0
  have HC0 := Aside0.mk hc0
  clear hr0 hc0
  have HB := Aside0.mk (Below.refl w.heap.size w)
  have H : (phaetonref03_Turned.l0 k l0 (([] : List Int)) 0) = some r := h
  clear h
  obtain ⟨y366, hy366⟩ : ∃ y_ : List Int, y_ = (([] : List Int)) := ⟨_, rfl⟩
  replace H : (phaetonref03_Turned.l0 k l0 y366 0) = some r := by first | (rw [hy366]; with_reducible exact H) | (have H2_ := (Option.bind_some _ _).symm.trans H; rw [hy366]; with_reducible exact H2_) | (have H2_ := (Option.bind_some _ _).symm.trans H; with_reducible exact H2_) | with_reducible exact H | (rw [hy366]; exact H) | exact H
  have Ny366 := Aside0.mk hy366
  clear hy366
  have H' := Aside0.mk H
  clear H
  go_enter Try.func20, Try.ntmps20
  go_wp2_with (first | ((with_reducible refine gate_dst (N := 5) rfl ?_); refine Kd.R_lit (Kd.int .i64) _ 3 ?hg (N := 5) ?hd (xs := ([] : List Int)) (inner := []) (ok := fun _ => True) (okp := fun _ => True) ?hr ?hp (fun _ hk => hk) trivial (Below.refl _ _) (Nat.le_refl _) (by simp) ?_; (case hd => rfl); (case hg => rfl); (case hr => first | (go_simp; done) | (go_simp; rfl)); (case hp => exact (Reps.none _ _)); intro v367 w2 ho3 hb hg_ hnew_; clear hg_ hnew_; (first | rw [← Ny366.out] at ho3 | (simp only [Int.reduceToNat] at ho3; rw [← Ny366.out] at ho3)); have n0_ := Aside0.mk (Kd.R_lower ho3 (below_size (by repeat (first | (with_reducible first | exact HB.out | apply below_alloc | apply pw_below_drewN | apply below_drew1) | exact HB.out)))); have n1_ := Aside0.mk (below_step (by repeat (first | (with_reducible first | exact HB.out | apply below_alloc | apply pw_below_drewN | apply below_drew1) | exact HB.out)) hb); clear HB; have HO368 := n0_; have HB := n1_; clear n0_ n1_; clear hb ho3))
  go_loopg [3, 4] k (fun kq v3 v4 w' => ∃ (x3_1 : List Int) (x4_1 : Int), v4 = .int .i64 x4_1 ∧ Aside0 (phaetonref03_Turned.l0 kq l0 x3_1 x4_1 = some r) ∧ Aside0 (kq ≤ k) ∧ Aside0 (Kd.R (Kd.int .i64) 3 w' w.heap.size (fun _ => True) v3 x3_1) ∧ Aside0 (Below w.heap.size w w'))
  case atStart => exact ⟨(y366), (0), (by first | rfl | (simp; done) | (simp [*]; done)), H', ⟨Nat.le_refl _⟩, ⟨by (with_reducible repeat (first | apply Kd.R_alloc | apply Kd.R_drewN | apply Kd.R_drew)); exact HO368.out⟩, ⟨by repeat (first | (with_reducible first | exact HB.out | apply below_alloc | apply pw_below_drewN | apply below_drew1) | exact HB.out)⟩⟩
  case round =>
    clear H'
    try clear c2
    try clear p2
    obtain ⟨x3_1, x4_1, rfl, HA, HK1, HO_3, HB⟩ := hrel
    cases gk with
    | zero => exact absurd HA.out (by simp [phaetonref03_Turned.l0])
    | succ k1 =>
      have H := HA.out
      clear HA
      simp only [phaetonref03_Turned.l0] at H
      by_cases c4 : x4_1 < (l0.length : Int)
      · rw [if_pos c4] at H
        have c4b0 : decide (x4_1 < (l0.length : Int)) = true := decide_eq_true c4
        clear c4
        by_cases c5 : 0 ≤ x4_1
        · rw [if_pos c5] at H
          have c5b0 : decide (0 ≤ x4_1) = true := decide_eq_true c5
          clear c5
          by_cases c6 : x3_1.length < 17592186044416
          · rw [if_pos c6] at H
            have LMc6 := Aside0.mk c6
            clear c6
            obtain ⟨y370, hy370⟩ : ∃ y_ : List Int, y_ = (x3_1 ++ [wrap64 (1 - (rd l0 x4_1))]) := ⟨_, rfl⟩
            replace H : (phaetonref03_Turned.l0 k1 l0 y370 (wrap64 (x4_1 + 1))) = some r := by first | (rw [hy370]; with_reducible exact H) | (have H2_ := (Option.bind_some _ _).symm.trans H; rw [hy370]; with_reducible exact H2_) | (have H2_ := (Option.bind_some _ _).symm.trans H; with_reducible exact H2_) | with_reducible exact H | (rw [hy370]; exact H) | exact H
            have Ny370 := Aside0.mk hy370
            clear hy370
            have H' := Aside0.mk H
            clear H
            have p369 : 0 ≤ (x4_1 : Int) := of_decide_eq_true (by first | (with_reducible assumption) | assumption)
            have q369 : x4_1 < (l0.length : Int) := of_decide_eq_true (by first | (with_reducible assumption) | assumption)
            obtain ⟨ad369, e369, hx369_0⟩ := Kd.at_int HR0.out x4_1 p369 q369
            cases e369
            replace hx369_0 := (HB.out.cell (World.block_lt_of_cell? w _ hx369_0)).trans hx369_0
            replace p369 := eq_true p369
            replace q369 := eq_true q369
            go_wp2_with (first | ((with_reducible refine gate_builtin (b := .append) (xs := #[.tmp 12, .tmp 18]) rfl ?_); at_builtin; refine Kd.R_append (Kd.int .i64) (w0 := w) w.heap.size rfl (.tmp 12) (.tmp 18) 22 3 (.int .i64 0) 8 rfl Try.underlying22 info3 rfl (by decide) (by omega) u3 x3_1 (wrap64 (1 - (rd l0 x4_1))) [.int .i64 (wrap64 (1 - (rd l0 x4_1)))] (fun _ => True) (fun _ => False) rfl rfl ?aP (fun _ hk => hk.elim) ?aF ?aO ?aB ?aS ?aL ?_; (case aP => exact rfl); (case aB => exact (by repeat (first | (with_reducible first | exact HB.out | apply below_alloc | apply pw_below_drewN | apply below_drew1) | exact HB.out))); (case aF => exact (fun _ _ => trivial)); (case aO => exact (by (with_reducible repeat (first | apply Kd.R_alloc | apply Kd.R_drewN | apply Kd.R_drew)); exact HO_3.out)); (case aS => exact (below_size (by repeat (first | (with_reducible first | exact HB.out | apply below_alloc | apply pw_below_drewN | apply below_drew1) | exact HB.out)))); (case aL => have := LMc6.out; omega); intro v371 w7 ho hb hg hat; rw [← Ny370.out] at ho; have n0_ := Aside0.mk (hb); have n1_ := Aside0.mk (ho); clear HB; clear HO_3; have HB := n0_; have HO372 := n1_; clear n0_ n1_; clear ho hb hg hat))
            go_roundg k1
            case measure => have := HK1.out; omega
            case rel => exact ⟨(y370), (wrap64 (x4_1 + 1)), (by first | rfl | (simp; done) | (simp [*]; done)), H', ⟨by have := HK1.out; omega⟩, ⟨by (with_reducible repeat (first | apply Kd.R_alloc | apply Kd.R_drewN | apply Kd.R_drew)); exact HO372.out⟩, ⟨by repeat (first | (with_reducible first | exact HB.out | apply below_alloc | apply pw_below_drewN | apply below_drew1) | exact HB.out)⟩⟩
          · rw [if_neg c6] at H
            exact absurd H (by simp)
        · rw [if_neg c5] at H
          exact absurd H (by simp)
      · rw [if_neg c4] at H
        have c4b0 : decide (x4_1 < (l0.length : Int)) = false := decide_eq_false c4
        clear c4
        obtain rfl := Option.some.inj H
        go_wp2
        go_ret
        exact ⟨_, by first | rfl | (simp [errW_none, errW_some] <;> rfl) | (simp [*, errW_none, errW_some] <;> rfl), by (with_reducible repeat (first | apply Kd.R_alloc | apply Kd.R_drewN | apply Kd.R_drew)); exact HO_3.out, by repeat (first | (with_reducible first | exact HB.out | apply below_alloc | apply pw_below_drewN | apply below_drew1) | exact HB.out)⟩

/-! ### phaetonlaw03_StuffTurned: function 10 -/
def phaetonlaw03_StuffTurned.f (k : Nat) (l0 : List Int) : Option (Bool) := (phaetonlaw03_head.f k).bind fun t373 => ((phaetonref03_Bits.f k l0 300).bind fun t374 => ((phaetonref03_Turned.f k t374).bind fun t377 => ((stuff_Strip.f t374).bind fun bt380 => ((stuff_Strip.f t377).bind fun bt384 => ((stuff_Stuff.f t377).bind fun t388 => ((stuff_Stuff.f t374).bind fun t391 => ((phaetonref03_Turned.f k t391).bind fun t394 => ((phaetonref03_Ints.f k t388 t394).bind fun t397 => (if t397 = true then ((phaetonref03_Turned.f k bt380.1).bind fun t398 => ((phaetonref03_Ints.f k bt384.1 t398).bind fun t401 => (if t401 = true then (if bt380.2 = bt384.2 then ((stuff_Runs.f t374).bind fun t402 => ((stuff_Runs.f t377).bind fun t403 => (if t402 = t403 then (if t373 = true then (some true) else (none)) else (none)))) else (none)) else (none)))) else (none))))))))))
theorem phaetonlaw03_StuffTurned.mono : ∀ a0 k, LeO (phaetonlaw03_StuffTurned.f k a0) (phaetonlaw03_StuffTurned.f (k + 1) a0) := by
  intro a0 k
  unfold phaetonlaw03_StuffTurned.f
  repeat' first
      | (with_reducible exact phaetonlaw03_head.mono _)
      | (with_reducible exact phaetonref03_Bits.mono _ _ _)
      | (with_reducible exact phaetonref03_Ints.mono _ _ _)
      | (with_reducible exact phaetonref03_Turned.mono _ _)
      | (with_reducible exact LeO.refl _)
      | (with_reducible exact LeO.none _)
      | (with_reducible refine LeO.ite ?_ ?_)
      | (with_reducible refine LeO.bind ?_ (fun _ => ?_))
      | exact phaetonlaw03_head.mono _
      | exact phaetonref03_Bits.mono _ _ _
      | exact phaetonref03_Ints.mono _ _ _
      | exact phaetonref03_Turned.mono _ _
      | exact LeO.none _
      | refine LeO.ite ?_ ?_
      | refine LeO.bind ?_ (fun _ => ?_)
set_option maxHeartbeats 8000000 in
set_option maxRecDepth 100000 in
theorem phaetonlaw03_StuffTurned.calls (k : Nat) (A0 : Option Addr) (c0 : Nat) (l0 : List Int) (r : Bool) (w : World) (hr0 : Kd.C (Kd.int .i64) w A0 l0.length l0) (hc0 : l0.length ≤ c0) (h : phaetonlaw03_StuffTurned.f k l0 = some r) :
    Calls Try.prog 10 #[.slice A0 l0.length c0] w fun e w' => e = .returned (.bool r) ∧ Below w.heap.size w w' := by
  have HR0 := Aside0.mk hr0
  have HC0 := Aside0.mk hc0
  clear hr0 hc0
  have HB := Aside0.mk (Below.refl w.heap.size w)
  have H : ((phaetonlaw03_head.f k).bind fun t373 => ((phaetonref03_Bits.f k l0 300).bind fun t374 => ((phaetonref03_Turned.f k t374).bind fun t377 => ((stuff_Strip.f t374).bind fun bt380 => ((stuff_Strip.f t377).bind fun bt384 => ((stuff_Stuff.f t377).bind fun t388 => ((stuff_Stuff.f t374).bind fun t391 => ((phaetonref03_Turned.f k t391).bind fun t394 => ((phaetonref03_Ints.f k t388 t394).bind fun t397 => (if t397 = true then ((phaetonref03_Turned.f k bt380.1).bind fun t398 => ((phaetonref03_Ints.f k bt384.1 t398).bind fun t401 => (if t401 = true then (if bt380.2 = bt384.2 then ((stuff_Runs.f t374).bind fun t402 => ((stuff_Runs.f t377).bind fun t403 => (if t402 = t403 then (if t373 = true then (some true) else (none)) else (none)))) else (none)) else (none)))) else (none))))))))))) = some r := h
  clear h
  replace H := Option.bind_eq_some_iff.mp H
  obtain ⟨t373, A20, H⟩ := H
  replace H : ((phaetonref03_Bits.f k l0 300).bind fun t374 => ((phaetonref03_Turned.f k t374).bind fun t377 => ((stuff_Strip.f t374).bind fun bt380 => ((stuff_Strip.f t377).bind fun bt384 => ((stuff_Stuff.f t377).bind fun t388 => ((stuff_Stuff.f t374).bind fun t391 => ((phaetonref03_Turned.f k t391).bind fun t394 => ((phaetonref03_Ints.f k t388 t394).bind fun t397 => (if t397 = true then ((phaetonref03_Turned.f k bt380.1).bind fun t398 => ((phaetonref03_Ints.f k bt384.1 t398).bind fun t401 => (if t401 = true then (if bt380.2 = bt384.2 then ((stuff_Runs.f t374).bind fun t402 => ((stuff_Runs.f t377).bind fun t403 => (if t402 = t403 then (if t373 = true then (some true) else (none)) else (none)))) else (none)) else (none)))) else (none)))))))))) = some r := H
  have A2 := Aside0.mk A20
  clear A20
  replace H := Option.bind_eq_some_iff.mp H
  obtain ⟨t374, A30, H⟩ := H
  replace H : ((phaetonref03_Turned.f k t374).bind fun t377 => ((stuff_Strip.f t374).bind fun bt380 => ((stuff_Strip.f t377).bind fun bt384 => ((stuff_Stuff.f t377).bind fun t388 => ((stuff_Stuff.f t374).bind fun t391 => ((phaetonref03_Turned.f k t391).bind fun t394 => ((phaetonref03_Ints.f k t388 t394).bind fun t397 => (if t397 = true then ((phaetonref03_Turned.f k bt380.1).bind fun t398 => ((phaetonref03_Ints.f k bt384.1 t398).bind fun t401 => (if t401 = true then (if bt380.2 = bt384.2 then ((stuff_Runs.f t374).bind fun t402 => ((stuff_Runs.f t377).bind fun t403 => (if t402 = t403 then (if t373 = true then (some true) else (none)) else (none)))) else (none)) else (none)))) else (none))))))))) = some r := H
  have A3 := Aside0.mk A30
  clear A30
  replace H := Option.bind_eq_some_iff.mp H
  obtain ⟨t377, A40, H⟩ := H
  replace H : ((stuff_Strip.f t374).bind fun bt380 => ((stuff_Strip.f t377).bind fun bt384 => ((stuff_Stuff.f t377).bind fun t388 => ((stuff_Stuff.f t374).bind fun t391 => ((phaetonref03_Turned.f k t391).bind fun t394 => ((phaetonref03_Ints.f k t388 t394).bind fun t397 => (if t397 = true then ((phaetonref03_Turned.f k bt380.1).bind fun t398 => ((phaetonref03_Ints.f k bt384.1 t398).bind fun t401 => (if t401 = true then (if bt380.2 = bt384.2 then ((stuff_Runs.f t374).bind fun t402 => ((stuff_Runs.f t377).bind fun t403 => (if t402 = t403 then (if t373 = true then (some true) else (none)) else (none)))) else (none)) else (none)))) else (none)))))))) = some r := H
  have A4 := Aside0.mk A40
  clear A40
  replace H := Option.bind_eq_some_iff.mp H
  obtain ⟨⟨t380, t381⟩, A50, H⟩ := H
  replace H : ((stuff_Strip.f t377).bind fun bt384 => ((stuff_Stuff.f t377).bind fun t388 => ((stuff_Stuff.f t374).bind fun t391 => ((phaetonref03_Turned.f k t391).bind fun t394 => ((phaetonref03_Ints.f k t388 t394).bind fun t397 => (if t397 = true then ((phaetonref03_Turned.f k t380).bind fun t398 => ((phaetonref03_Ints.f k bt384.1 t398).bind fun t401 => (if t401 = true then (if t381 = bt384.2 then ((stuff_Runs.f t374).bind fun t402 => ((stuff_Runs.f t377).bind fun t403 => (if t402 = t403 then (if t373 = true then (some true) else (none)) else (none)))) else (none)) else (none)))) else (none))))))) = some r := H
  have A5 := Aside0.mk A50
  clear A50
  replace H := Option.bind_eq_some_iff.mp H
  obtain ⟨⟨t384, t385⟩, A60, H⟩ := H
  replace H : ((stuff_Stuff.f t377).bind fun t388 => ((stuff_Stuff.f t374).bind fun t391 => ((phaetonref03_Turned.f k t391).bind fun t394 => ((phaetonref03_Ints.f k t388 t394).bind fun t397 => (if t397 = true then ((phaetonref03_Turned.f k t380).bind fun t398 => ((phaetonref03_Ints.f k t384 t398).bind fun t401 => (if t401 = true then (if t381 = t385 then ((stuff_Runs.f t374).bind fun t402 => ((stuff_Runs.f t377).bind fun t403 => (if t402 = t403 then (if t373 = true then (some true) else (none)) else (none)))) else (none)) else (none)))) else (none)))))) = some r := H
  have A6 := Aside0.mk A60
  clear A60
  replace H := Option.bind_eq_some_iff.mp H
  obtain ⟨t388, A70, H⟩ := H
  replace H : ((stuff_Stuff.f t374).bind fun t391 => ((phaetonref03_Turned.f k t391).bind fun t394 => ((phaetonref03_Ints.f k t388 t394).bind fun t397 => (if t397 = true then ((phaetonref03_Turned.f k t380).bind fun t398 => ((phaetonref03_Ints.f k t384 t398).bind fun t401 => (if t401 = true then (if t381 = t385 then ((stuff_Runs.f t374).bind fun t402 => ((stuff_Runs.f t377).bind fun t403 => (if t402 = t403 then (if t373 = true then (some true) else (none)) else (none)))) else (none)) else (none)))) else (none))))) = some r := H
  have A7 := Aside0.mk A70
  clear A70
  replace H := Option.bind_eq_some_iff.mp H
  obtain ⟨t391, A80, H⟩ := H
  replace H : ((phaetonref03_Turned.f k t391).bind fun t394 => ((phaetonref03_Ints.f k t388 t394).bind fun t397 => (if t397 = true then ((phaetonref03_Turned.f k t380).bind fun t398 => ((phaetonref03_Ints.f k t384 t398).bind fun t401 => (if t401 = true then (if t381 = t385 then ((stuff_Runs.f t374).bind fun t402 => ((stuff_Runs.f t377).bind fun t403 => (if t402 = t403 then (if t373 = true then (some true) else (none)) else (none)))) else (none)) else (none)))) else (none)))) = some r := H
  have A8 := Aside0.mk A80
  clear A80
  replace H := Option.bind_eq_some_iff.mp H
  obtain ⟨t394, A90, H⟩ := H
  replace H : ((phaetonref03_Ints.f k t388 t394).bind fun t397 => (if t397 = true then ((phaetonref03_Turned.f k t380).bind fun t398 => ((phaetonref03_Ints.f k t384 t398).bind fun t401 => (if t401 = true then (if t381 = t385 then ((stuff_Runs.f t374).bind fun t402 => ((stuff_Runs.f t377).bind fun t403 => (if t402 = t403 then (if t373 = true then (some true) else (none)) else (none)))) else (none)) else (none)))) else (none))) = some r := H
  have A9 := Aside0.mk A90
  clear A90
  replace H := Option.bind_eq_some_iff.mp H
  obtain ⟨t397, A100, H⟩ := H
  replace H : (if t397 = true then ((phaetonref03_Turned.f k t380).bind fun t398 => ((phaetonref03_Ints.f k t384 t398).bind fun t401 => (if t401 = true then (if t381 = t385 then ((stuff_Runs.f t374).bind fun t402 => ((stuff_Runs.f t377).bind fun t403 => (if t402 = t403 then (if t373 = true then (some true) else (none)) else (none)))) else (none)) else (none)))) else (none)) = some r := H
  have A10 := Aside0.mk A100
  clear A100
  by_cases c11 : t397 = true
  · subst c11
    have H1 : ((phaetonref03_Turned.f k t380).bind fun t398 => ((phaetonref03_Ints.f k t384 t398).bind fun t401 => (if t401 = true then (if t381 = t385 then ((stuff_Runs.f t374).bind fun t402 => ((stuff_Runs.f t377).bind fun t403 => (if t402 = t403 then (if t373 = true then (some true) else (none)) else (none)))) else (none)) else (none)))) = some r := by rw [if_pos rfl] at H; exact H
    clear H
    have H := H1
    clear H1
    replace H := Option.bind_eq_some_iff.mp H
    obtain ⟨t398, A120, H⟩ := H
    replace H : ((phaetonref03_Ints.f k t384 t398).bind fun t401 => (if t401 = true then (if t381 = t385 then ((stuff_Runs.f t374).bind fun t402 => ((stuff_Runs.f t377).bind fun t403 => (if t402 = t403 then (if t373 = true then (some true) else (none)) else (none)))) else (none)) else (none))) = some r := H
    have A12 := Aside0.mk A120
    clear A120
    replace H := Option.bind_eq_some_iff.mp H
    obtain ⟨t401, A130, H⟩ := H
    replace H : (if t401 = true then (if t381 = t385 then ((stuff_Runs.f t374).bind fun t402 => ((stuff_Runs.f t377).bind fun t403 => (if t402 = t403 then (if t373 = true then (some true) else (none)) else (none)))) else (none)) else (none)) = some r := H
    have A13 := Aside0.mk A130
    clear A130
    by_cases c14 : t401 = true
    · subst c14
      have H1 : (if t381 = t385 then ((stuff_Runs.f t374).bind fun t402 => ((stuff_Runs.f t377).bind fun t403 => (if t402 = t403 then (if t373 = true then (some true) else (none)) else (none)))) else (none)) = some r := by rw [if_pos rfl] at H; exact H
      clear H
      have H := H1
      clear H1
      by_cases c15 : t381 = t385
      · rw [if_pos c15] at H
        have c15b0 : (t381 == t385) = true := beq_iff_eq.mpr c15
        have c15b1 : (t381 != t385) = false := bne_eq_false_iff_eq.mpr c15
        clear c15
        replace H := Option.bind_eq_some_iff.mp H
        obtain ⟨t402, A160, H⟩ := H
        replace H : ((stuff_Runs.f t377).bind fun t403 => (if t402 = t403 then (if t373 = true then (some true) else (none)) else (none))) = some r := H
        have A16 := Aside0.mk A160
        clear A160
        replace H := Option.bind_eq_some_iff.mp H
        obtain ⟨t403, A170, H⟩ := H
        replace H : (if t402 = t403 then (if t373 = true then (some true) else (none)) else (none)) = some r := H
        have A17 := Aside0.mk A170
        clear A170
        by_cases c18 : t402 = t403
        · rw [if_pos c18] at H
          have c18b0 : (t402 == t403) = true := beq_iff_eq.mpr c18
          have c18b1 : (t402 != t403) = false := bne_eq_false_iff_eq.mpr c18
          clear c18
          by_cases c19 : t373 = true
          · subst c19
            have H1 : (some true) = some r := by rw [if_pos rfl] at H; exact H
            clear H
            have H := H1
            clear H1
            obtain rfl := Option.some.inj H
            go_enter Try.func10, Try.ntmps10
            go_wp2_with (first | ((with_reducible refine gate_callee (f := 11) rfl ?_); refine goesL_ (some 9) rfl rfl Try.func11 (by kernel_rfl) rfl #[] rfl (by (try simp only [List.map_toArray, List.map_cons, List.map_nil]); first | done | rfl | (simp only [List.length_drop, List.length_take]; rfl)) ?_; (with_reducible refine (phaetonlaw03_head.calls k  true _ A2.out).mono ?_); rintro e w20 ⟨rfl, hb⟩; refine ⟨_, rfl, ?_⟩; have n0_ := Aside0.mk (below_step (by repeat (first | (with_reducible first | exact HB.out | apply below_alloc | apply pw_below_drewN | apply below_drew1) | exact HB.out)) hb); clear HB; have HB := n0_; clear n0_; (try clear hb); (try clear hb2); (try clear hk); (try clear hi)) | ((with_reducible refine gate_callee (f := 12) rfl ?_); refine goesL_ (some 11) rfl rfl Try.func12 (by kernel_rfl) rfl #[.slice A0 l0.length c0, .int .i64 300] rfl (by (try simp only [List.map_toArray, List.map_cons, List.map_nil]); first | done | rfl | (simp only [List.length_drop, List.length_take]; rfl)) ?_; (with_reducible refine (phaetonref03_Bits.calls k _ _ l0 300 t374 _ ?side1 ?side2 A3.out).mono ?_); (case side1 => repeat (first | exact (Kd.C_below HR0.out HB.out) | (with_reducible refine Kd.C_alloc ?_ _) | (with_reducible refine Kd.C_drewN ?_ _) | (with_reducible refine Kd.C_drew ?_))); (case side2 => exact HC0.out); rintro e w21 ⟨v375, rfl, ho0, hb⟩; refine ⟨_, rfl, ?_⟩; have n0_ := Aside0.mk (Kd.R_lower ho0 (below_size (by repeat (first | (with_reducible first | exact HB.out | apply below_alloc | apply pw_below_drewN | apply below_drew1) | exact HB.out)))); have n1_ := Aside0.mk (below_step (by repeat (first | (with_reducible first | exact HB.out | apply below_alloc | apply pw_below_drewN | apply below_drew1) | exact HB.out)) hb); clear HB; have HO376 := n0_; have HB := n1_; clear n0_ n1_; (try clear hb); (try clear hb2); (try clear hk); (try clear hi); (try clear ho0); obtain ⟨Ao22, co22, eo22⟩ := Kd.R_slice HO376.out; subst eo22) | ((with_reducible refine gate_callee (f := 20) rfl ?_); refine goesL_ (some 13) rfl rfl Try.func20 (by kernel_rfl) rfl #[.slice Ao22 t374.length co22] rfl (by (try simp only [List.map_toArray, List.map_cons, List.map_nil]); first | done | rfl | (simp only [List.length_drop, List.length_take]; rfl)) ?_; (with_reducible refine (phaetonref03_Turned.calls k _ _ t374 t377 _ ?side1 ?side2 A4.out).mono ?_); (case side1 => repeat (first | exact (Kd.R_reads' HO376.out).2.2 | (with_reducible refine Kd.C_alloc ?_ _) | (with_reducible refine Kd.C_drewN ?_ _) | (with_reducible refine Kd.C_drew ?_))); (case side2 => exact (Kd.R_reads' HO376.out).2.1); rintro e w23 ⟨v378, rfl, ho0, hb⟩; refine ⟨_, rfl, ?_⟩; have n0_ := Aside0.mk (Kd.R_elder' (by (with_reducible repeat (first | apply Kd.R_alloc | apply Kd.R_drewN | apply Kd.R_drew)); exact HO376.out) (Kd.R_base ho0) hb); have n1_ := Aside0.mk (Kd.R_lower (Kd.R_new' ho0 (Kd.R_lt (by (with_reducible repeat (first | apply Kd.R_alloc | apply Kd.R_drewN | apply Kd.R_drew)); exact HO376.out))) (below_size (by repeat (first | (with_reducible first | exact HB.out | apply below_alloc | apply pw_below_drewN | apply below_drew1) | exact HB.out)))); have n2_ := Aside0.mk (below_step (by repeat (first | (with_reducible first | exact HB.out | apply below_alloc | apply pw_below_drewN | apply below_drew1) | exact HB.out)) hb); clear HO376; clear HB; have HO376 := n0_; have HO379 := n1_; have HB := n2_; clear n0_ n1_ n2_; (try clear hb); (try clear hb2); (try clear hk); (try clear hi); (try clear ho0)) | ((with_reducible refine gate_callee (f := 13) rfl ?_); refine goesL_ (some 16) rfl rfl Try.func13 (by kernel_rfl) rfl #[.slice Ao22 t374.length co22] rfl (by (try simp only [List.map_toArray, List.map_cons, List.map_nil]); first | done | rfl | (simp only [List.length_drop, List.length_take]; rfl)) ?_; (with_reducible refine (stuff_Strip.calls _ _ t374 t380 t381 _ ?side1 ?side2 A5.out).mono ?_); (case side1 => repeat (first | exact (Kd.R_reads' HO376.out).2.2 | (with_reducible refine Kd.C_alloc ?_ _) | (with_reducible refine Kd.C_drewN ?_ _) | (with_reducible refine Kd.C_drew ?_))); (case side2 => exact (Kd.R_reads' HO376.out).2.1); rintro e w24 ⟨v382, rfl, ho0, hb⟩; refine ⟨_, rfl, ?_⟩; have n0_ := Aside0.mk (Kd.R_elder' (by (with_reducible repeat (first | apply Kd.R_alloc | apply Kd.R_drewN | apply Kd.R_drew)); exact HO376.out) (Kd.R_base ho0) hb); have n1_ := Aside0.mk (Kd.R_elder' (by (with_reducible repeat (first | apply Kd.R_alloc | apply Kd.R_drewN | apply Kd.R_drew)); exact HO379.out) (Kd.R_base ho0) hb); have n2_ := Aside0.mk (Kd.R_lower (Kd.R_new' (Kd.R_new' ho0 (Kd.R_lt (by (with_reducible repeat (first | apply Kd.R_alloc | apply Kd.R_drewN | apply Kd.R_drew)); exact HO376.out))) (Kd.R_lt (by (with_reducible repeat (first | apply Kd.R_alloc | apply Kd.R_drewN | apply Kd.R_drew)); exact HO379.out))) (below_size (by repeat (first | (with_reducible first | exact HB.out | apply below_alloc | apply pw_below_drewN | apply below_drew1) | exact HB.out)))); have n3_ := Aside0.mk (below_step (by repeat (first | (with_reducible first | exact HB.out | apply below_alloc | apply pw_below_drewN | apply below_drew1) | exact HB.out)) hb); clear HO376; clear HO379; clear HB; have HO376 := n0_; have HO379 := n1_; have HO383 := n2_; have HB := n3_; clear n0_ n1_ n2_ n3_; (try clear hb); (try clear hb2); (try clear hk); (try clear hi); (try clear ho0); obtain ⟨Ao25, co25, eo25⟩ := Kd.R_slice HO379.out; subst eo25) | ((with_reducible refine gate_callee (f := 13) rfl ?_); refine goesL_ (some 21) rfl rfl Try.func13 (by kernel_rfl) rfl #[.slice Ao25 t377.length co25] rfl (by (try simp only [List.map_toArray, List.map_cons, List.map_nil]); first | done | rfl | (simp only [List.length_drop, List.length_take]; rfl)) ?_; (with_reducible refine (stuff_Strip.calls _ _ t377 t384 t385 _ ?side1 ?side2 A6.out).mono ?_); (case side1 => repeat (first | exact (Kd.R_reads' HO379.out).2.2 | (with_reducible refine Kd.C_alloc ?_ _) | (with_reducible refine Kd.C_drewN ?_ _) | (with_reducible refine Kd.C_drew ?_))); (case side2 => exact (Kd.R_reads' HO379.out).2.1); rintro e w26 ⟨v386, rfl, ho0, hb⟩; refine ⟨_, rfl, ?_⟩; have n0_ := Aside0.mk (Kd.R_elder' (by (with_reducible repeat (first | apply Kd.R_alloc | apply Kd.R_drewN | apply Kd.R_drew)); exact HO376.out) (Kd.R_base ho0) hb); have n1_ := Aside0.mk (Kd.R_elder' (by (with_reducible repeat (first | apply Kd.R_alloc | apply Kd.R_drewN | apply Kd.R_drew)); exact HO379.out) (Kd.R_base ho0) hb); have n2_ := Aside0.mk (Kd.R_elder' (by (with_reducible repeat (first | apply Kd.R_alloc | apply Kd.R_drewN | apply Kd.R_drew)); exact HO383.out) (Kd.R_base ho0) hb); have n3_ := Aside0.mk (Kd.R_lower (Kd.R_new' (Kd.R_new' (Kd.R_new' ho0 (Kd.R_lt (by (with_reducible repeat (first | apply Kd.R_alloc | apply Kd.R_drewN | apply Kd.R_drew)); exact HO376.out))) (Kd.R_lt (by (with_reducible repeat (first | apply Kd.R_alloc | apply Kd.R_drewN | apply Kd.R_drew)); exact HO379.out))) (Kd.R_lt (by (with_reducible repeat (first | apply Kd.R_alloc | apply Kd.R_drewN | apply Kd.R_drew)); exact HO383.out))) (below_size (by repeat (first | (with_reducible first | exact HB.out | apply below_alloc | apply pw_below_drewN | apply below_drew1) | exact HB.out)))); have n4_ := Aside0.mk (below_step (by repeat (first | (with_reducible first | exact HB.out | apply below_alloc | apply pw_below_drewN | apply below_drew1) | exact HB.out)) hb); clear HO376; clear HO379; clear HO383; clear HB; have HO376 := n0_; have HO379 := n1_; have HO383 := n2_; have HO387 := n3_; have HB := n4_; clear n0_ n1_ n2_ n3_ n4_; (try clear hb); (try clear hb2); (try clear hk); (try clear hi); (try clear ho0)) | ((with_reducible refine gate_callee (f := 16) rfl ?_); refine goesL_ (some 25) rfl rfl Try.func16 (by kernel_rfl) rfl #[.slice Ao25 t377.length co25] rfl (by (try simp only [List.map_toArray, List.map_cons, List.map_nil]); first | done | rfl | (simp only [List.length_drop, List.length_take]; rfl)) ?_; (with_reducible refine (stuff_Stuff.calls _ _ t377 t388 _ ?side1 ?side2 A7.out).mono ?_); (case side1 => repeat (first | exact (Kd.R_reads' HO379.out).2.2 | (with_reducible refine Kd.C_alloc ?_ _) | (with_reducible refine Kd.C_drewN ?_ _) | (with_reducible refine Kd.C_drew ?_))); (case side2 => exact (Kd.R_reads' HO379.out).2.1); rintro e w27 ⟨v389, rfl, ho0, hb⟩; refine ⟨_, rfl, ?_⟩; have n0_ := Aside0.mk (Kd.R_elder' (by (with_reducible repeat (first | apply Kd.R_alloc | apply Kd.R_drewN | apply Kd.R_drew)); exact HO376.out) (Kd.R_base ho0) hb); have n1_ := Aside0.mk (Kd.R_elder' (by (with_reducible repeat (first | apply Kd.R_alloc | apply Kd.R_drewN | apply Kd.R_drew)); exact HO379.out) (Kd.R_base ho0) hb); have n2_ := Aside0.mk (Kd.R_elder' (by (with_reducible repeat (first | apply Kd.R_alloc | apply Kd.R_drewN | apply Kd.R_drew)); exact HO383.out) (Kd.R_base ho0) hb); have n3_ := Aside0.mk (Kd.R_elder' (by (with_reducible repeat (first | apply Kd.R_alloc | apply Kd.R_drewN | apply Kd.R_drew)); exact HO387.out) (Kd.R_base ho0) hb); have n4_ := Aside0.mk (Kd.R_lower (Kd.R_new' (Kd.R_new' (Kd.R_new' (Kd.R_new' ho0 (Kd.R_lt (by (with_reducible repeat (first | apply Kd.R_alloc | apply Kd.R_drewN | apply Kd.R_drew)); exact HO376.out))) (Kd.R_lt (by (with_reducible repeat (first | apply Kd.R_alloc | apply Kd.R_drewN | apply Kd.R_drew)); exact HO379.out))) (Kd.R_lt (by (with_reducible repeat (first | apply Kd.R_alloc | apply Kd.R_drewN | apply Kd.R_drew)); exact HO383.out))) (Kd.R_lt (by (with_reducible repeat (first | apply Kd.R_alloc | apply Kd.R_drewN | apply Kd.R_drew)); exact HO387.out))) (below_size (by repeat (first | (with_reducible first | exact HB.out | apply below_alloc | apply pw_below_drewN | apply below_drew1) | exact HB.out)))); have n5_ := Aside0.mk (below_step (by repeat (first | (with_reducible first | exact HB.out | apply below_alloc | apply pw_below_drewN | apply below_drew1) | exact HB.out)) hb); clear HO376; clear HO379; clear HO383; clear HO387; clear HB; have HO376 := n0_; have HO379 := n1_; have HO383 := n2_; have HO387 := n3_; have HO390 := n4_; have HB := n5_; clear n0_ n1_ n2_ n3_ n4_ n5_; (try clear hb); (try clear hb2); (try clear hk); (try clear hi); (try clear ho0)) | ((with_reducible refine gate_callee (f := 16) rfl ?_); refine goesL_ (some 27) rfl rfl Try.func16 (by kernel_rfl) rfl #[.slice Ao22 t374.length co22] rfl (by (try simp only [List.map_toArray, List.map_cons, List.map_nil]); first | done | rfl | (simp only [List.length_drop, List.length_take]; rfl)) ?_; (with_reducible refine (stuff_Stuff.calls _ _ t374 t391 _ ?side1 ?side2 A8.out).mono ?_); (case side1 => repeat (first | exact (Kd.R_reads' HO376.out).2.2 | (with_reducible refine Kd.C_alloc ?_ _) | (with_reducible refine Kd.C_drewN ?_ _) | (with_reducible refine Kd.C_drew ?_))); (case side2 => exact (Kd.R_reads' HO376.out).2.1); rintro e w28 ⟨v392, rfl, ho0, hb⟩; refine ⟨_, rfl, ?_⟩; have n0_ := Aside0.mk (Kd.R_elder' (by (with_reducible repeat (first | apply Kd.R_alloc | apply Kd.R_drewN | apply Kd.R_drew)); exact HO376.out) (Kd.R_base ho0) hb); have n1_ := Aside0.mk (Kd.R_elder' (by (with_reducible repeat (first | apply Kd.R_alloc | apply Kd.R_drewN | apply Kd.R_drew)); exact HO379.out) (Kd.R_base ho0) hb); have n2_ := Aside0.mk (Kd.R_elder' (by (with_reducible repeat (first | apply Kd.R_alloc | apply Kd.R_drewN | apply Kd.R_drew)); exact HO383.out) (Kd.R_base ho0) hb); have n3_ := Aside0.mk (Kd.R_elder' (by (with_reducible repeat (first | apply Kd.R_alloc | apply Kd.R_drewN | apply Kd.R_drew)); exact HO387.out) (Kd.R_base ho0) hb); have n4_ := Aside0.mk (Kd.R_elder' (by (with_reducible repeat (first | apply Kd.R_alloc | apply Kd.R_drewN | apply Kd.R_drew)); exact HO390.out) (Kd.R_base ho0) hb); have n5_ := Aside0.mk (Kd.R_lower (Kd.R_new' (Kd.R_new' (Kd.R_new' (Kd.R_new' (Kd.R_new' ho0 (Kd.R_lt (by (with_reducible repeat (first | apply Kd.R_alloc | apply Kd.R_drewN | apply Kd.R_drew)); exact HO376.out))) (Kd.R_lt (by (with_reducible repeat (first | apply Kd.R_alloc | apply Kd.R_drewN | apply Kd.R_drew)); exact HO379.out))) (Kd.R_lt (by (with_reducible repeat (first | apply Kd.R_alloc | apply Kd.R_drewN | apply Kd.R_drew)); exact HO383.out))) (Kd.R_lt (by (with_reducible repeat (first | apply Kd.R_alloc | apply Kd.R_drewN | apply Kd.R_drew)); exact HO387.out))) (Kd.R_lt (by (with_reducible repeat (first | apply Kd.R_alloc | apply Kd.R_drewN | apply Kd.R_drew)); exact HO390.out))) (below_size (by repeat (first | (with_reducible first | exact HB.out | apply below_alloc | apply pw_below_drewN | apply below_drew1) | exact HB.out)))); have n6_ := Aside0.mk (below_step (by repeat (first | (with_reducible first | exact HB.out | apply below_alloc | apply pw_below_drewN | apply below_drew1) | exact HB.out)) hb); clear HO376; clear HO379; clear HO383; clear HO387; clear HO390; clear HB; have HO376 := n0_; have HO379 := n1_; have HO383 := n2_; have HO387 := n3_; have HO390 := n4_; have HO393 := n5_; have HB := n6_; clear n0_ n1_ n2_ n3_ n4_ n5_ n6_; (try clear hb); (try clear hb2); (try clear hk); (try clear hi); (try clear ho0); obtain ⟨Ao29, co29, eo29⟩ := Kd.R_slice HO393.out; subst eo29) | ((with_reducible refine gate_callee (f := 20) rfl ?_); refine goesL_ (some 28) rfl rfl Try.func20 (by kernel_rfl) rfl #[.slice Ao29 t391.length co29] rfl (by (try simp only [List.map_toArray, List.map_cons, List.map_nil]); first | done | rfl | (simp only [List.length_drop, List.length_take]; rfl)) ?_; (with_reducible refine (phaetonref03_Turned.calls k _ _ t391 t394 _ ?side1 ?side2 A9.out).mono ?_); (case side1 => repeat (first | exact (Kd.R_reads' HO393.out).2.2 | (with_reducible refine Kd.C_alloc ?_ _) | (with_reducible refine Kd.C_drewN ?_ _) | (with_reducible refine Kd.C_drew ?_))); (case side2 => exact (Kd.R_reads' HO393.out).2.1); rintro e w30 ⟨v395, rfl, ho0, hb⟩; refine ⟨_, rfl, ?_⟩; have n0_ := Aside0.mk (Kd.R_elder' (by (with_reducible repeat (first | apply Kd.R_alloc | apply Kd.R_drewN | apply Kd.R_drew)); exact HO376.out) (Kd.R_base ho0) hb); have n1_ := Aside0.mk (Kd.R_elder' (by (with_reducible repeat (first | apply Kd.R_alloc | apply Kd.R_drewN | apply Kd.R_drew)); exact HO379.out) (Kd.R_base ho0) hb); have n2_ := Aside0.mk (Kd.R_elder' (by (with_reducible repeat (first | apply Kd.R_alloc | apply Kd.R_drewN | apply Kd.R_drew)); exact HO383.out) (Kd.R_base ho0) hb); have n3_ := Aside0.mk (Kd.R_elder' (by (with_reducible repeat (first | apply Kd.R_alloc | apply Kd.R_drewN | apply Kd.R_drew)); exact HO387.out) (Kd.R_base ho0) hb); have n4_ := Aside0.mk (Kd.R_elder' (by (with_reducible repeat (first | apply Kd.R_alloc | apply Kd.R_drewN | apply Kd.R_drew)); exact HO390.out) (Kd.R_base ho0) hb); have n5_ := Aside0.mk (Kd.R_elder' (by (with_reducible repeat (first | apply Kd.R_alloc | apply Kd.R_drewN | apply Kd.R_drew)); exact HO393.out) (Kd.R_base ho0) hb); have n6_ := Aside0.mk (Kd.R_lower (Kd.R_new' (Kd.R_new' (Kd.R_new' (Kd.R_new' (Kd.R_new' (Kd.R_new' ho0 (Kd.R_lt (by (with_reducible repeat (first | apply Kd.R_alloc | apply Kd.R_drewN | apply Kd.R_drew)); exact HO376.out))) (Kd.R_lt (by (with_reducible repeat (first | apply Kd.R_alloc | apply Kd.R_drewN | apply Kd.R_drew)); exact HO379.out))) (Kd.R_lt (by (with_reducible repeat (first | apply Kd.R_alloc | apply Kd.R_drewN | apply Kd.R_drew)); exact HO383.out))) (Kd.R_lt (by (with_reducible repeat (first | apply Kd.R_alloc | apply Kd.R_drewN | apply Kd.R_drew)); exact HO387.out))) (Kd.R_lt (by (with_reducible repeat (first | apply Kd.R_alloc | apply Kd.R_drewN | apply Kd.R_drew)); exact HO390.out))) (Kd.R_lt (by (with_reducible repeat (first | apply Kd.R_alloc | apply Kd.R_drewN | apply Kd.R_drew)); exact HO393.out))) (below_size (by repeat (first | (with_reducible first | exact HB.out | apply below_alloc | apply pw_below_drewN | apply below_drew1) | exact HB.out)))); have n7_ := Aside0.mk (below_step (by repeat (first | (with_reducible first | exact HB.out | apply below_alloc | apply pw_below_drewN | apply below_drew1) | exact HB.out)) hb); clear HO376; clear HO379; clear HO383; clear HO387; clear HO390; clear HO393; clear HB; have HO376 := n0_; have HO379 := n1_; have HO383 := n2_; have HO387 := n3_; have HO390 := n4_; have HO393 := n5_; have HO396 := n6_; have HB := n7_; clear n0_ n1_ n2_ n3_ n4_ n5_ n6_ n7_; (try clear hb); (try clear hb2); (try clear hk); (try clear hi); (try clear ho0); obtain ⟨Ao31, co31, eo31⟩ := Kd.R_slice HO390.out; subst eo31; obtain ⟨Ao32, co32, eo32⟩ := Kd.R_slice HO396.out; subst eo32) | ((with_reducible refine gate_callee (f := 15) rfl ?_); refine goesL_ (some 29) rfl rfl Try.func15 (by kernel_rfl) rfl #[.slice Ao31 t388.length co31, .slice Ao32 t394.length co32] rfl (by (try simp only [List.map_toArray, List.map_cons, List.map_nil]); first | done | rfl | (simp only [List.length_drop, List.length_take]; rfl)) ?_; (with_reducible refine (phaetonref03_Ints.calls k _ _ t388 _ _ t394 true _ ?side1 ?side2 ?side3 ?side4 A10.out).mono ?_); (case side1 => repeat (first | exact (Kd.R_reads' HO390.out).2.2 | (with_reducible refine Kd.C_alloc ?_ _) | (with_reducible refine Kd.C_drewN ?_ _) | (with_reducible refine Kd.C_drew ?_))); (case side2 => exact (Kd.R_reads' HO390.out).2.1); (case side3 => repeat (first | exact (Kd.R_reads' HO396.out).2.2 | (with_reducible refine Kd.C_alloc ?_ _) | (with_reducible refine Kd.C_drewN ?_ _) | (with_reducible refine Kd.C_drew ?_))); (case side4 => exact (Kd.R_reads' HO396.out).2.1); rintro e w' ⟨rfl, ⟨nd, rfl⟩⟩; refine ⟨_, rfl, ?_⟩; obtain ⟨Ao33, co33, eo33⟩ := Kd.R_slice HO383.out; subst eo33) | (go_at_call 20; (with_reducible refine (phaetonref03_Turned.calls k _ _ t380 t398 _ ?side1 ?side2 A12.out).mono ?_); (case side1 => repeat (first | exact (Kd.R_reads' HO383.out).2.2 | (with_reducible refine Kd.C_alloc ?_ _) | (with_reducible refine Kd.C_drewN ?_ _) | (with_reducible refine Kd.C_drew ?_))); (case side2 => exact (Kd.R_reads' HO383.out).2.1); rintro e w34 ⟨v399, rfl, ho0, hb⟩; have n0_ := Aside0.mk (Kd.R_elder' (by (with_reducible repeat (first | apply Kd.R_alloc | apply Kd.R_drewN | apply Kd.R_drew)); exact HO376.out) (Kd.R_base ho0) hb); have n1_ := Aside0.mk (Kd.R_elder' (by (with_reducible repeat (first | apply Kd.R_alloc | apply Kd.R_drewN | apply Kd.R_drew)); exact HO379.out) (Kd.R_base ho0) hb); have n2_ := Aside0.mk (Kd.R_elder' (by (with_reducible repeat (first | apply Kd.R_alloc | apply Kd.R_drewN | apply Kd.R_drew)); exact HO383.out) (Kd.R_base ho0) hb); have n3_ := Aside0.mk (Kd.R_elder' (by (with_reducible repeat (first | apply Kd.R_alloc | apply Kd.R_drewN | apply Kd.R_drew)); exact HO387.out) (Kd.R_base ho0) hb); have n4_ := Aside0.mk (Kd.R_elder' (by (with_reducible repeat (first | apply Kd.R_alloc | apply Kd.R_drewN | apply Kd.R_drew)); exact HO390.out) (Kd.R_base ho0) hb); have n5_ := Aside0.mk (Kd.R_elder' (by (with_reducible repeat (first | apply Kd.R_alloc | apply Kd.R_drewN | apply Kd.R_drew)); exact HO393.out) (Kd.R_base ho0) hb); have n6_ := Aside0.mk (Kd.R_elder' (by (with_reducible repeat (first | apply Kd.R_alloc | apply Kd.R_drewN | apply Kd.R_drew)); exact HO396.out) (Kd.R_base ho0) hb); have n7_ := Aside0.mk (Kd.R_lower (Kd.R_new' (Kd.R_new' (Kd.R_new' (Kd.R_new' (Kd.R_new' (Kd.R_new' (Kd.R_new' ho0 (Kd.R_lt (by (with_reducible repeat (first | apply Kd.R_alloc | apply Kd.R_drewN | apply Kd.R_drew)); exact HO376.out))) (Kd.R_lt (by (with_reducible repeat (first | apply Kd.R_alloc | apply Kd.R_drewN | apply Kd.R_drew)); exact HO379.out))) (Kd.R_lt (by (with_reducible repeat (first | apply Kd.R_alloc | apply Kd.R_drewN | apply Kd.R_drew)); exact HO383.out))) (Kd.R_lt (by (with_reducible repeat (first | apply Kd.R_alloc | apply Kd.R_drewN | apply Kd.R_drew)); exact HO387.out))) (Kd.R_lt (by (with_reducible repeat (first | apply Kd.R_alloc | apply Kd.R_drewN | apply Kd.R_drew)); exact HO390.out))) (Kd.R_lt (by (with_reducible repeat (first | apply Kd.R_alloc | apply Kd.R_drewN | apply Kd.R_drew)); exact HO393.out))) (Kd.R_lt (by (with_reducible repeat (first | apply Kd.R_alloc | apply Kd.R_drewN | apply Kd.R_drew)); exact HO396.out))) (below_size (by repeat (first | (with_reducible first | exact HB.out | apply below_alloc | apply pw_below_drewN | apply below_drew1) | exact HB.out)))); have n8_ := Aside0.mk (below_step (by repeat (first | (with_reducible first | exact HB.out | apply below_alloc | apply pw_below_drewN | apply below_drew1) | exact HB.out)) hb); clear HO376; clear HO379; clear HO383; clear HO387; clear HO390; clear HO393; clear HO396; clear HB; have HO376 := n0_; have HO379 := n1_; have HO383 := n2_; have HO387 := n3_; have HO390 := n4_; have HO393 := n5_; have HO396 := n6_; have HO400 := n7_; have HB := n8_; clear n0_ n1_ n2_ n3_ n4_ n5_ n6_ n7_ n8_; (try clear hb); (try clear hb2); (try clear hk); (try clear hi); (try clear ho0); obtain ⟨Ao35, co35, eo35⟩ := Kd.R_slice HO387.out; subst eo35; obtain ⟨Ao36, co36, eo36⟩ := Kd.R_slice HO400.out; subst eo36) | (go_at_call 15; (with_reducible refine (phaetonref03_Ints.calls k _ _ t384 _ _ t398 true _ ?side1 ?side2 ?side3 ?side4 A13.out).mono ?_); (case side1 => repeat (first | exact (Kd.R_reads' HO387.out).2.2 | (with_reducible refine Kd.C_alloc ?_ _) | (with_reducible refine Kd.C_drewN ?_ _) | (with_reducible refine Kd.C_drew ?_))); (case side2 => exact (Kd.R_reads' HO387.out).2.1); (case side3 => repeat (first | exact (Kd.R_reads' HO400.out).2.2 | (with_reducible refine Kd.C_alloc ?_ _) | (with_reducible refine Kd.C_drewN ?_ _) | (with_reducible refine Kd.C_drew ?_))); (case side4 => exact (Kd.R_reads' HO400.out).2.1); rintro e w' ⟨rfl, ⟨nd, rfl⟩⟩) | (go_at_call 18; (with_reducible refine (stuff_Runs.calls _ _ t374 t402 _ ?side1 ?side2 A16.out).mono ?_); (case side1 => repeat (first | exact (Kd.R_reads' HO376.out).2.2 | (with_reducible refine Kd.C_alloc ?_ _) | (with_reducible refine Kd.C_drewN ?_ _) | (with_reducible refine Kd.C_drew ?_))); (case side2 => exact (Kd.R_reads' HO376.out).2.1); rintro e w37 ⟨rfl, hb⟩; have n0_ := Aside0.mk (Kd.R_below (by (with_reducible repeat (first | apply Kd.R_alloc | apply Kd.R_drewN | apply Kd.R_drew)); exact HO376.out) hb); have n1_ := Aside0.mk (Kd.R_below (by (with_reducible repeat (first | apply Kd.R_alloc | apply Kd.R_drewN | apply Kd.R_drew)); exact HO379.out) hb); have n2_ := Aside0.mk (Kd.R_below (by (with_reducible repeat (first | apply Kd.R_alloc | apply Kd.R_drewN | apply Kd.R_drew)); exact HO383.out) hb); have n3_ := Aside0.mk (Kd.R_below (by (with_reducible repeat (first | apply Kd.R_alloc | apply Kd.R_drewN | apply Kd.R_drew)); exact HO387.out) hb); have n4_ := Aside0.mk (Kd.R_below (by (with_reducible repeat (first | apply Kd.R_alloc | apply Kd.R_drewN | apply Kd.R_drew)); exact HO390.out) hb); have n5_ := Aside0.mk (Kd.R_below (by (with_reducible repeat (first | apply Kd.R_alloc | apply Kd.R_drewN | apply Kd.R_drew)); exact HO393.out) hb); have n6_ := Aside0.mk (Kd.R_below (by (with_reducible repeat (first | apply Kd.R_alloc | apply Kd.R_drewN | apply Kd.R_drew)); exact HO396.out) hb); have n7_ := Aside0.mk (Kd.R_below (by (with_reducible repeat (first | apply Kd.R_alloc | apply Kd.R_drewN | apply Kd.R_drew)); exact HO400.out) hb); have n8_ := Aside0.mk (below_step (by repeat (first | (with_reducible first | exact HB.out | apply below_alloc | apply pw_below_drewN | apply below_drew1) | exact HB.out)) hb); clear HO376; clear HO379; clear HO383; clear HO387; clear HO390; clear HO393; clear HO396; clear HO400; clear HB; have HO376 := n0_; have HO379 := n1_; have HO383 := n2_; have HO387 := n3_; have HO390 := n4_; have HO393 := n5_; have HO396 := n6_; have HO400 := n7_; have HB := n8_; clear n0_ n1_ n2_ n3_ n4_ n5_ n6_ n7_ n8_; (try clear hb); (try clear hb2); (try clear hk); (try clear hi)) | (go_at_call 18; (with_reducible refine (stuff_Runs.calls _ _ t377 t403 _ ?side1 ?side2 A17.out).mono ?_); (case side1 => repeat (first | exact (Kd.R_reads' HO379.out).2.2 | (with_reducible refine Kd.C_alloc ?_ _) | (with_reducible refine Kd.C_drewN ?_ _) | (with_reducible refine Kd.C_drew ?_))); (case side2 => exact (Kd.R_reads' HO379.out).2.1); rintro e w38 ⟨rfl, hb⟩; have n0_ := Aside0.mk (Kd.R_below (by (with_reducible repeat (first | apply Kd.R_alloc | apply Kd.R_drewN | apply Kd.R_drew)); exact HO376.out) hb); have n1_ := Aside0.mk (Kd.R_below (by (with_reducible repeat (first | apply Kd.R_alloc | apply Kd.R_drewN | apply Kd.R_drew)); exact HO379.out) hb); have n2_ := Aside0.mk (Kd.R_below (by (with_reducible repeat (first | apply Kd.R_alloc | apply Kd.R_drewN | apply Kd.R_drew)); exact HO383.out) hb); have n3_ := Aside0.mk (Kd.R_below (by (with_reducible repeat (first | apply Kd.R_alloc | apply Kd.R_drewN | apply Kd.R_drew)); exact HO387.out) hb); have n4_ := Aside0.mk (Kd.R_below (by (with_reducible repeat (first | apply Kd.R_alloc | apply Kd.R_drewN | apply Kd.R_drew)); exact HO390.out) hb); have n5_ := Aside0.mk (Kd.R_below (by (with_reducible repeat (first | apply Kd.R_alloc | apply Kd.R_drewN | apply Kd.R_drew)); exact HO393.out) hb); have n6_ := Aside0.mk (Kd.R_below (by (with_reducible repeat (first | apply Kd.R_alloc | apply Kd.R_drewN | apply Kd.R_drew)); exact HO396.out) hb); have n7_ := Aside0.mk (Kd.R_below (by (with_reducible repeat (first | apply Kd.R_alloc | apply Kd.R_drewN | apply Kd.R_drew)); exact HO400.out) hb); have n8_ := Aside0.mk (below_step (by repeat (first | (with_reducible first | exact HB.out | apply below_alloc | apply pw_below_drewN | apply below_drew1) | exact HB.out)) hb); clear HO376; clear HO379; clear HO383; clear HO387; clear HO390; clear HO393; clear HO396; clear HO400; clear HB; have HO376 := n0_; have HO379 := n1_; have HO383 := n2_; have HO387 := n3_; have HO390 := n4_; have HO393 := n5_; have HO396 := n6_; have HO400 := n7_; have HB := n8_; clear n0_ n1_ n2_ n3_ n4_ n5_ n6_ n7_ n8_; (try clear hb); (try clear hb2); (try clear hk); (try clear hi)))
            go_ret
            exact ⟨by first | rfl | (simp [errW_none, errW_some] <;> rfl) | (simp [*, errW_none, errW_some] <;> rfl), by repeat (first | (with_reducible first | exact HB.out | apply below_alloc | apply pw_below_drewN | apply below_drew1) | exact HB.out)⟩
          · replace c19 := Bool.eq_false_iff.mpr c19
            subst c19
            have H1 : (none) = some r := by rw [if_neg (show ¬ (false = true) by decide)] at H; exact H
            clear H
            have H := H1
            clear H1
            exact absurd H (by simp)
        · rw [if_neg c18] at H
          exact absurd H (by simp)
      · rw [if_neg c15] at H
        exact absurd H (by simp)
    · replace c14 := Bool.eq_false_iff.mpr c14
      subst c14
      have H1 : (none) = some r := by rw [if_neg (show ¬ (false = true) by decide)] at H; exact H
      clear H
      have H := H1
      clear H1
      exact absurd H (by simp)
  · replace c11 := Bool.eq_false_iff.mpr c11
    subst c11
    have H1 : (none) = some r := by rw [if_neg (show ¬ (false = true) by decide)] at H; exact H
    clear H
    have H := H1
    clear H1
    exact absurd H (by simp)

/-- THE ONE PURE STATEMENT of phaetonlaw03_StuffTurned: yours. -/
def phaetonlaw03_StuffTurned.Pure : Prop := ∀ (l0 : List Int), l0.length ≤ maxLen → l0.length * 8 ≤ 140737488351232 → (∀ x ∈ l0, (Lit.int .i64 x).wf = true) → ∃ k, phaetonlaw03_StuffTurned.f k l0 = some true
theorem phaetonlaw03_StuffTurned.walk (P : phaetonlaw03_StuffTurned.Pure) (a0 : Option Addr) (len0 cap0 : Nat) (z0 : List Int) (w : World) (w0 : (a0 = none ∧ len0 = 0 ∧ cap0 = 0 ∧ z0 = []) ∨ ∃ x, a0 = some x ∧ len0 ≤ cap0 ∧ cap0 ≤ maxLen ∧ z0.length = cap0 ∧ (∀ i, i < z0.length → w.cell? (x.add i) = some (.int .i64 (z0.getD i 0))) ∧ ∀ n ∈ z0, (Lit.int .i64 n).wf = true) (y0 : len0 * 8 ≤ 140737488351232) :
    Calls Try.prog 10 #[.slice a0 len0 cap0] w fun e w' => e = .returned (.bool true) ∧ Below w.heap.size w w' := by
  obtain ⟨l0, rfl, hr0, hm0, hw0, hc0⟩ := ReadsInt.ofRowC w0
  obtain ⟨k, h⟩ := P l0 hm0 y0 hw0
  refine (phaetonlaw03_StuffTurned.calls k _ _ l0 true w (Kd.C_of_reads (d := (0 : Int)) (h1 := fun _ => rfl) hr0) hc0 h).mono ?_
  rintro e w' ⟨rfl, hd⟩
  exact ⟨rfl, hd⟩

end Go.Proofs.Ytlggjgabefjjoaa.Px

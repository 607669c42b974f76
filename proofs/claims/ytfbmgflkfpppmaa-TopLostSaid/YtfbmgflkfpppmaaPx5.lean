-- Written by myprint.py, a program of this session's, over the kit's print.py; not a text of print.sh's own.
import Derived.Test.YtfbmgflkfpppmaaPx0
import Derived.Test.YtfbmgflkfpppmaaPx4
namespace Go.Proofs.Ytfbmgflkfpppmaa.Px
open Go.RowKit Go.Proofs.YtfbmgflkfpppmaaW.PrintWords Go.Proofs.YtfbmgflkfpppmaaW.PrintLast Go.Proofs.YtfbmgflkfpppmaaW.PrintMore
attribute [local go_sem] max2_int min2_int max_two min_two max_three min_three max_four min_four   -- for this text's walks alone
set_option linter.unusedVariables false
set_option linter.unusedSimpArgs false

/-- A state of type 64 at block g of W; what its slices lead to came in by w0. -/
def IsS64 (w0 W : World) (g : Nat) (f0 : Bool) (f1 : Int) (f2 : Int) (f3 : Int) : Prop := W.heap[g]? = some (.cells #[.bool f0, .int .i64 f1, .int .i64 f2, .int .i64 f3] 64 (0, 0)) ∧ w0.heap.size ≤ g
theorem IsS64.grown {w0 W : World} {g : Nat} {f0 : Bool} {f1 : Int} {f2 : Int} {f3 : Int} {W1 : World} {row : Option Nat} (h : IsS64 w0 W g f0 f1 f2 f3) (hw : W.grownBy W1 row) (hne : some g ≠ row) : IsS64 w0 W1 g f0 f1 f2 f3 := by
  obtain ⟨hb, hg⟩ := h
  exact ⟨blk_grown hb hw hne, hg⟩
theorem IsS64.own_neN {w0 W : World} {g : Nat} {f0 : Bool} {f1 : Int} {f2 : Int} {f3 : Int} {α : Type} {d : Kd α} {e : Nat} {base : Nat} {ok : Nat → Prop} {v : Value} {xs : List α} (h : IsS64 w0 W g f0 f1 f2 f3) (ho : Kd.N d e W base ok v xs) (ht : e ≠ 64) : some g ≠ v.ownBlock := by
  obtain ⟨hb, hg⟩ := h
  exact Kd.N_ne ho hb ht
theorem IsS64.fresh {w0 W : World} {g : Nat} {f0 : Bool} {f1 : Int} {f2 : Int} {f3 : Int} (h : IsS64 w0 W g f0 f1 f2 f3) : ∀ k, W.heap.size ≤ k → k ≠ g := by
  obtain ⟨hb, hg⟩ := h
  exact Kd.freshB hb
theorem IsS64.kept {w0 W : World} {g : Nat} {f0 : Bool} {f1 : Int} {f2 : Int} {f3 : Int} {W1 : World} {S : Nat → Prop} (h : IsS64 w0 W g f0 f1 f2 f3) (hk : Kept W W1 S) (hne : ¬ S g) : IsS64 w0 W1 g f0 f1 f2 f3 := by
  obtain ⟨hb, hg⟩ := h
  exact ⟨blk_kept hb hk hne, hg⟩
theorem IsS64.below {w0 W : World} {g : Nat} {f0 : Bool} {f1 : Int} {f2 : Int} {f3 : Int} {W1 : World} (h : IsS64 w0 W g f0 f1 f2 f3) (hw : Below W.heap.size W W1) : IsS64 w0 W1 g f0 f1 f2 f3 := h.grown (grown_of_below hw none) (by simp)
theorem IsS64.alloc {w0 W : World} {g : Nat} {f0 : Bool} {f1 : Int} {f2 : Int} {f3 : Int} (h : IsS64 w0 W g f0 f1 f2 f3) (o : Obj) : IsS64 w0 (W.alloc o) g f0 f1 f2 f3 := h.below (below_alloc (Below.refl _ _) o)
theorem IsS64.drewN {w0 W : World} {g : Nat} {f0 : Bool} {f1 : Int} {f2 : Int} {f3 : Int} (h : IsS64 w0 W g f0 f1 f2 f3) (m : Nat) : IsS64 w0 (W.drewN m) g f0 f1 f2 f3 := h
theorem IsS64.drew {w0 W : World} {g : Nat} {f0 : Bool} {f1 : Int} {f2 : Int} {f3 : Int} (h : IsS64 w0 W g f0 f1 f2 f3) : IsS64 w0 W.drew g f0 f1 f2 f3 := h
theorem IsS64.at_ {w0 W : World} {g : Nat} {f0 : Bool} {f1 : Int} {f2 : Int} {f3 : Int} {w' : World} {m : Nat} (hq : W.drewN m = w') (h : IsS64 w0 W g f0 f1 f2 f3) : IsS64 w0 w' g f0 f1 f2 f3 := by subst hq; exact IsS64.drewN h m
theorem IsS64.apart {w0 W : World} {g : Nat} {f0 : Bool} {f1 : Int} {f2 : Int} {f3 : Int} {α : Type} {d : Kd α} {e : Nat} {base : Nat} {ok : Nat → Prop} {v : Value} {xs : List α} (h : IsS64 w0 W g f0 f1 f2 f3) (ho : d.R e W base ok v xs) (ht : ∀ q, q ∈ e :: d.E → q ≠ 64) : d.R e W base (fun k => ok k ∧ k ≠ g) v xs := by
  obtain ⟨hb, hg⟩ := h
  exact Kd.R_types ho hb ht
theorem IsS64.own_ne {w0 W : World} {g : Nat} {f0 : Bool} {f1 : Int} {f2 : Int} {f3 : Int} {α : Type} {d : Kd α} {e : Nat} {base : Nat} {ok : Nat → Prop} {v : Value} {xs : List α} (h : IsS64 w0 W g f0 f1 f2 f3) (ho : d.R e W base ok v xs) (ht : e ≠ 64) : some g ≠ v.ownBlock := by
  obtain ⟨hb, hg⟩ := h
  exact Kd.R_ne ho hb ht
theorem IsS64.apartQ {w0 W : World} {g : Nat} {f0 : Bool} {f1 : Int} {f2 : Int} {f3 : Int} {α : Type} {d : Kd α} {e : Nat} {base : Nat} {ok : Nat → Prop} {v : Value} {xs : List α} (h : IsS64 w0 W g f0 f1 f2 f3) (ho : d.Q e W base ok v xs) (ht : ∀ q, q ∈ e :: d.E → q ≠ 64) : d.Q e W base (fun k => ok k ∧ k ≠ g) v xs := by
  obtain ⟨hb, hg⟩ := h
  exact Kd.Q_types ho hb ht
theorem IsS64.own_neQ {w0 W : World} {g : Nat} {f0 : Bool} {f1 : Int} {f2 : Int} {f3 : Int} {α : Type} {d : Kd α} {e : Nat} {base : Nat} {ok : Nat → Prop} {v : Value} {xs : List α} (h : IsS64 w0 W g f0 f1 f2 f3) (ho : d.Q e W base ok v xs) (ht : e ≠ 64) : some g ≠ v.ownBlock := by
  obtain ⟨hb, hg⟩ := h
  exact Kd.Q_ne ho hb ht
theorem IsS64.apartS {w0 W : World} {g : Nat} {f0 : Bool} {f1 : Int} {f2 : Int} {f3 : Int} {α : Type} {d : Kd α} {e : Nat} {base : Nat} {ok : Nat → Prop} {v : Value} {xs : List α} (h : IsS64 w0 W g f0 f1 f2 f3) (ho : d.S e W base ok v xs) (ht : ∀ q, q ∈ e :: d.E → q ≠ 64) : d.S e W base (fun k => ok k ∧ k ≠ g) v xs := by
  obtain ⟨hb, hg⟩ := h
  exact Kd.S_types ho hb ht
theorem IsS64.own_neS {w0 W : World} {g : Nat} {f0 : Bool} {f1 : Int} {f2 : Int} {f3 : Int} {α : Type} {d : Kd α} {e : Nat} {base : Nat} {ok : Nat → Prop} {v : Value} {xs : List α} (h : IsS64 w0 W g f0 f1 f2 f3) (ho : d.S e W base ok v xs) (ht : e ≠ 64) : some g ≠ v.ownBlock := by
  obtain ⟨hb, hg⟩ := h
  exact Kd.S_ne ho hb ht
theorem IsS64.lt {w0 W : World} {g : Nat} {f0 : Bool} {f1 : Int} {f2 : Int} {f3 : Int} (h : IsS64 w0 W g f0 f1 f2 f3) : g < W.heap.size := by
  obtain ⟨hb, hg⟩ := h
  exact blk_lt hb
theorem IsS64.ge {w0 W : World} {g : Nat} {f0 : Bool} {f1 : Int} {f2 : Int} {f3 : Int} (h : IsS64 w0 W g f0 f1 f2 f3) : w0.heap.size ≤ g := by
  obtain ⟨hb, hg⟩ := h
  exact hg
theorem IsS64.ne_blk {w0 W : World} {g : Nat} {f0 : Bool} {f1 : Int} {f2 : Int} {f3 : Int} {a : Nat} {cs : Array Value} {t : TypeId} {fr : Nat × Nat} (h : IsS64 w0 W g f0 f1 f2 f3) (hb2 : W.heap[a]? = some (.cells cs t fr)) (ht : t ≠ 64) : g ≠ a := by
  obtain ⟨hb, hg⟩ := h
  rintro rfl
  rw [hb] at hb2
  injection hb2 with hb2
  injection hb2 with _ ht2
  exact ht ht2.symm
theorem IsS64.far {w0 W : World} {g : Nat} {f0 : Bool} {f1 : Int} {f2 : Int} {f3 : Int} {p : Addr} (h : IsS64 w0 W g f0 f1 f2 f3) (hne : g ≠ p.block) (u : Value) : IsS64 w0 (W.setCell p u) g f0 f1 f2 f3 := by
  obtain ⟨hb, hg⟩ := h
  exact ⟨blk_far hb hne u, hg⟩
theorem cellS64_0 {W : World} {g : Nat} {f0 : Bool} {f1 : Int} {f2 : Int} {f3 : Int} (h : W.heap[g]? = some (.cells #[.bool f0, .int .i64 f1, .int .i64 f2, .int .i64 f3] 64 (0, 0))) : W.cell? ⟨g, 0, none⟩ = some (.bool f0) := (blk_cell h 0).trans rfl
theorem IsS64.set_0 {w0 W : World} {g : Nat} {f0 : Bool} {f1 : Int} {f2 : Int} {f3 : Int} (h : IsS64 w0 W g f0 f1 f2 f3) (x : Bool) : IsS64 w0 (W.setCell ⟨g, 0, none⟩ (.bool x)) g x f1 f2 f3 := by
  obtain ⟨hb, hg⟩ := h
  exact ⟨by simpa using blk_set hb 0 (.bool x), hg⟩
theorem cellS64_1 {W : World} {g : Nat} {f0 : Bool} {f1 : Int} {f2 : Int} {f3 : Int} (h : W.heap[g]? = some (.cells #[.bool f0, .int .i64 f1, .int .i64 f2, .int .i64 f3] 64 (0, 0))) : W.cell? ⟨g, 1, none⟩ = some (.int .i64 f1) := (blk_cell h 1).trans rfl
theorem IsS64.set_1 {w0 W : World} {g : Nat} {f0 : Bool} {f1 : Int} {f2 : Int} {f3 : Int} (h : IsS64 w0 W g f0 f1 f2 f3) (x : Int) : IsS64 w0 (W.setCell ⟨g, 1, none⟩ (.int .i64 x)) g f0 x f2 f3 := by
  obtain ⟨hb, hg⟩ := h
  exact ⟨by simpa using blk_set hb 1 (.int .i64 x), hg⟩
theorem cellS64_2 {W : World} {g : Nat} {f0 : Bool} {f1 : Int} {f2 : Int} {f3 : Int} (h : W.heap[g]? = some (.cells #[.bool f0, .int .i64 f1, .int .i64 f2, .int .i64 f3] 64 (0, 0))) : W.cell? ⟨g, 2, none⟩ = some (.int .i64 f2) := (blk_cell h 2).trans rfl
theorem IsS64.set_2 {w0 W : World} {g : Nat} {f0 : Bool} {f1 : Int} {f2 : Int} {f3 : Int} (h : IsS64 w0 W g f0 f1 f2 f3) (x : Int) : IsS64 w0 (W.setCell ⟨g, 2, none⟩ (.int .i64 x)) g f0 f1 x f3 := by
  obtain ⟨hb, hg⟩ := h
  exact ⟨by simpa using blk_set hb 2 (.int .i64 x), hg⟩
theorem cellS64_3 {W : World} {g : Nat} {f0 : Bool} {f1 : Int} {f2 : Int} {f3 : Int} (h : W.heap[g]? = some (.cells #[.bool f0, .int .i64 f1, .int .i64 f2, .int .i64 f3] 64 (0, 0))) : W.cell? ⟨g, 3, none⟩ = some (.int .i64 f3) := (blk_cell h 3).trans rfl
theorem IsS64.set_3 {w0 W : World} {g : Nat} {f0 : Bool} {f1 : Int} {f2 : Int} {f3 : Int} (h : IsS64 w0 W g f0 f1 f2 f3) (x : Int) : IsS64 w0 (W.setCell ⟨g, 3, none⟩ (.int .i64 x)) g f0 f1 f2 x := by
  obtain ⟨hb, hg⟩ := h
  exact ⟨by simpa using blk_set hb 3 (.int .i64 x), hg⟩
theorem IsS64.new (w0 W : World) (f0 : Bool) (f1 : Int) (f2 : Int) (f3 : Int) (hB : Below w0.heap.size w0 W) : IsS64 w0 (W.alloc (.cells #[.bool f0, .int .i64 f1, .int .i64 f2, .int .i64 f3] 64)) W.heap.size f0 f1 f2 f3 := ⟨by simpa using heap_alloc_new W _, hB.size⟩

/-! ### trust_trust_kind: function 15 -/
def trust_trust_kind.f (s0_0 : Bool) (s0_1 : Int) (s0_2 : Int) (s0_3 : Int) (a1 : Int) (a2 : Int) : Option (Int × Bool × Int × Int × Int) := if s0_0 = true then (if (Int.tmod (wrap64 ((wrap64 (a1 - s0_1)) + 15)) 15) = 0 then (some (3, s0_0, s0_1, s0_2, s0_3)) else (if (Int.tmod (wrap64 ((wrap64 (a1 - s0_1)) + 15)) 15) = 1 then (some (1, s0_0, s0_1, s0_2, s0_3)) else (if (Int.tmod (wrap64 ((wrap64 (a1 - s0_1)) + 15)) 15) ≤ a2 then (some (4, s0_0, s0_1, s0_2, s0_3)) else (some (6, s0_0, s0_1, s0_2, s0_3))))) else (some (2, s0_0, s0_1, s0_2, s0_3))
set_option maxHeartbeats 8000000 in
set_option maxRecDepth 100000 in
theorem trust_trust_kind.calls (g : Nat) (s0_0 : Bool) (s0_1 : Int) (s0_2 : Int) (s0_3 : Int) (a1 : Int) (a2 : Int) (r1 : Int) (r2 : Bool) (r3 : Int) (r4 : Int) (r5 : Int) (w0 w : World) (hI : IsS64 w0 w g s0_0 s0_1 s0_2 s0_3) (hB : Below w0.heap.size w0 w) (h : trust_trust_kind.f s0_0 s0_1 s0_2 s0_3 a1 a2 = some (r1, r2, r3, r4, r5)) :
    Calls Try.prog 15 #[.pointer (some ⟨g, 0, none⟩), .int .i64 a1, .int .i64 a2] w fun e w' => e = .returned (.int .i64 r1) ∧ IsS64 w0 w' g r2 r3 r4 r5 ∧ Below w0.heap.size w0 w' ∧ KeepBut w w' g none := by
  have HI0 := Aside0.mk hI
  have HK := Aside0.mk (KeepBut.refl w g none)
  have HL := Aside0.mk hB.size
  clear hI
  have HW0 := Aside0.mk hB.size
  have HB := Aside0.mk hB
  clear hB
  have H : (if s0_0 = true then (if (Int.tmod (wrap64 ((wrap64 (a1 - s0_1)) + 15)) 15) = 0 then (some (3, s0_0, s0_1, s0_2, s0_3)) else (if (Int.tmod (wrap64 ((wrap64 (a1 - s0_1)) + 15)) 15) = 1 then (some (1, s0_0, s0_1, s0_2, s0_3)) else (if (Int.tmod (wrap64 ((wrap64 (a1 - s0_1)) + 15)) 15) ≤ a2 then (some (4, s0_0, s0_1, s0_2, s0_3)) else (some (6, s0_0, s0_1, s0_2, s0_3))))) else (some (2, s0_0, s0_1, s0_2, s0_3))) = some (r1, r2, r3, r4, r5) := h
  clear h
  by_cases c4 : s0_0 = true
  · subst c4
    have H1 : (if (Int.tmod (wrap64 ((wrap64 (a1 - s0_1)) + 15)) 15) = 0 then (some (3, true, s0_1, s0_2, s0_3)) else (if (Int.tmod (wrap64 ((wrap64 (a1 - s0_1)) + 15)) 15) = 1 then (some (1, true, s0_1, s0_2, s0_3)) else (if (Int.tmod (wrap64 ((wrap64 (a1 - s0_1)) + 15)) 15) ≤ a2 then (some (4, true, s0_1, s0_2, s0_3)) else (some (6, true, s0_1, s0_2, s0_3))))) = some (r1, r2, r3, r4, r5) := by rw [if_pos rfl] at H; exact H
    clear H
    have H := H1
    clear H1
    by_cases c5 : (Int.tmod (wrap64 ((wrap64 (a1 - s0_1)) + 15)) 15) = 0
    · rw [if_pos c5] at H
      have c5b0 : ((Int.tmod (wrap64 ((wrap64 (a1 - s0_1)) + 15)) 15) == 0) = true := beq_iff_eq.mpr c5
      have c5b1 : ((Int.tmod (wrap64 ((wrap64 (a1 - s0_1)) + 15)) 15) != 0) = false := bne_eq_false_iff_eq.mpr c5
      clear c5
      simp only [Option.some.injEq, Prod.mk.injEq] at H
      obtain ⟨rfl, rfl, rfl, rfl, rfl⟩ := H
      obtain ⟨HGz6, hgz6⟩ := HI0.out
      have hcz6_0 := cellS64_0 HGz6
      have hcz6_1 := cellS64_1 HGz6
      have hcz6_2 := cellS64_2 HGz6
      have hcz6_3 := cellS64_3 HGz6
      have hfz6_0 := blk_frozen HGz6 0
      have hfz6_1 := blk_frozen HGz6 1
      have hfz6_2 := blk_frozen HGz6 2
      have hfz6_3 := blk_frozen HGz6 3
      clear HGz6 hgz6
      go_enter Try.func15, Try.ntmps15
      go_wp2
      go_ret
      exact ⟨by first | rfl | (simp [errW_none, errW_some] <;> rfl) | (simp [*, errW_none, errW_some] <;> rfl), by repeat (first | (with_reducible first | exact HI0.out | apply IsS64.alloc | apply IsS64.drewN | apply IsS64.drew | apply IsS64.set_0 | apply IsS64.set_1 | apply IsS64.set_2 | apply IsS64.set_3) | exact HI0.out), by repeat (first | (with_reducible first | exact HB.out | apply below_alloc | apply pw_below_drewN | apply below_drew1 | refine below_set ?_ (IsS64.ge HI0.out)) | exact HB.out), by repeat (first | (with_reducible first | exact HK.out | apply KeepBut.set_ | apply keep_drewN | apply keep_drew | apply keep_alloc) | exact HK.out)⟩
    · rw [if_neg c5] at H
      have c5b0 : ((Int.tmod (wrap64 ((wrap64 (a1 - s0_1)) + 15)) 15) == 0) = false := beq_eq_false_iff_ne.mpr c5
      have c5b1 : ((Int.tmod (wrap64 ((wrap64 (a1 - s0_1)) + 15)) 15) != 0) = true := bne_iff_ne.mpr c5
      by_cases c7 : (Int.tmod (wrap64 ((wrap64 (a1 - s0_1)) + 15)) 15) = 1
      · rw [if_pos c7] at H
        have c7b0 : ((Int.tmod (wrap64 ((wrap64 (a1 - s0_1)) + 15)) 15) == 1) = true := beq_iff_eq.mpr c7
        have c7b1 : ((Int.tmod (wrap64 ((wrap64 (a1 - s0_1)) + 15)) 15) != 1) = false := bne_eq_false_iff_eq.mpr c7
        clear c7
        simp only [Option.some.injEq, Prod.mk.injEq] at H
        obtain ⟨rfl, rfl, rfl, rfl, rfl⟩ := H
        obtain ⟨HGz8, hgz8⟩ := HI0.out
        have hcz8_0 := cellS64_0 HGz8
        have hcz8_1 := cellS64_1 HGz8
        have hcz8_2 := cellS64_2 HGz8
        have hcz8_3 := cellS64_3 HGz8
        have hfz8_0 := blk_frozen HGz8 0
        have hfz8_1 := blk_frozen HGz8 1
        have hfz8_2 := blk_frozen HGz8 2
        have hfz8_3 := blk_frozen HGz8 3
        clear HGz8 hgz8
        go_enter Try.func15, Try.ntmps15
        go_wp2
        go_ret
        exact ⟨by first | rfl | (simp [errW_none, errW_some] <;> rfl) | (simp [*, errW_none, errW_some] <;> rfl), by repeat (first | (with_reducible first | exact HI0.out | apply IsS64.alloc | apply IsS64.drewN | apply IsS64.drew | apply IsS64.set_0 | apply IsS64.set_1 | apply IsS64.set_2 | apply IsS64.set_3) | exact HI0.out), by repeat (first | (with_reducible first | exact HB.out | apply below_alloc | apply pw_below_drewN | apply below_drew1 | refine below_set ?_ (IsS64.ge HI0.out)) | exact HB.out), by repeat (first | (with_reducible first | exact HK.out | apply KeepBut.set_ | apply keep_drewN | apply keep_drew | apply keep_alloc) | exact HK.out)⟩
      · rw [if_neg c7] at H
        have c7b0 : ((Int.tmod (wrap64 ((wrap64 (a1 - s0_1)) + 15)) 15) == 1) = false := beq_eq_false_iff_ne.mpr c7
        have c7b1 : ((Int.tmod (wrap64 ((wrap64 (a1 - s0_1)) + 15)) 15) != 1) = true := bne_iff_ne.mpr c7
        by_cases c9 : (Int.tmod (wrap64 ((wrap64 (a1 - s0_1)) + 15)) 15) ≤ a2
        · rw [if_pos c9] at H
          have c9b0 : decide ((Int.tmod (wrap64 ((wrap64 (a1 - s0_1)) + 15)) 15) ≤ a2) = true := decide_eq_true c9
          clear c9
          simp only [Option.some.injEq, Prod.mk.injEq] at H
          obtain ⟨rfl, rfl, rfl, rfl, rfl⟩ := H
          obtain ⟨HGz10, hgz10⟩ := HI0.out
          have hcz10_0 := cellS64_0 HGz10
          have hcz10_1 := cellS64_1 HGz10
          have hcz10_2 := cellS64_2 HGz10
          have hcz10_3 := cellS64_3 HGz10
          have hfz10_0 := blk_frozen HGz10 0
          have hfz10_1 := blk_frozen HGz10 1
          have hfz10_2 := blk_frozen HGz10 2
          have hfz10_3 := blk_frozen HGz10 3
          clear HGz10 hgz10
          go_enter Try.func15, Try.ntmps15
          go_wp2
          go_ret
          exact ⟨by first | rfl | (simp [errW_none, errW_some] <;> rfl) | (simp [*, errW_none, errW_some] <;> rfl), by repeat (first | (with_reducible first | exact HI0.out | apply IsS64.alloc | apply IsS64.drewN | apply IsS64.drew | apply IsS64.set_0 | apply IsS64.set_1 | apply IsS64.set_2 | apply IsS64.set_3) | exact HI0.out), by repeat (first | (with_reducible first | exact HB.out | apply below_alloc | apply pw_below_drewN | apply below_drew1 | refine below_set ?_ (IsS64.ge HI0.out)) | exact HB.out), by repeat (first | (with_reducible first | exact HK.out | apply KeepBut.set_ | apply keep_drewN | apply keep_drew | apply keep_alloc) | exact HK.out)⟩
        · rw [if_neg c9] at H
          have c9b0 : decide ((Int.tmod (wrap64 ((wrap64 (a1 - s0_1)) + 15)) 15) ≤ a2) = false := decide_eq_false c9
          clear c9
          simp only [Option.some.injEq, Prod.mk.injEq] at H
          obtain ⟨rfl, rfl, rfl, rfl, rfl⟩ := H
          obtain ⟨HGz11, hgz11⟩ := HI0.out
          have hcz11_0 := cellS64_0 HGz11
          have hcz11_1 := cellS64_1 HGz11
          have hcz11_2 := cellS64_2 HGz11
          have hcz11_3 := cellS64_3 HGz11
          have hfz11_0 := blk_frozen HGz11 0
          have hfz11_1 := blk_frozen HGz11 1
          have hfz11_2 := blk_frozen HGz11 2
          have hfz11_3 := blk_frozen HGz11 3
          clear HGz11 hgz11
          go_enter Try.func15, Try.ntmps15
          go_wp2
          go_ret
          exact ⟨by first | rfl | (simp [errW_none, errW_some] <;> rfl) | (simp [*, errW_none, errW_some] <;> rfl), by repeat (first | (with_reducible first | exact HI0.out | apply IsS64.alloc | apply IsS64.drewN | apply IsS64.drew | apply IsS64.set_0 | apply IsS64.set_1 | apply IsS64.set_2 | apply IsS64.set_3) | exact HI0.out), by repeat (first | (with_reducible first | exact HB.out | apply below_alloc | apply pw_below_drewN | apply below_drew1 | refine below_set ?_ (IsS64.ge HI0.out)) | exact HB.out), by repeat (first | (with_reducible first | exact HK.out | apply KeepBut.set_ | apply keep_drewN | apply keep_drew | apply keep_alloc) | exact HK.out)⟩
  · replace c4 := Bool.eq_false_iff.mpr c4
    subst c4
    have H1 : (some (2, false, s0_1, s0_2, s0_3)) = some (r1, r2, r3, r4, r5) := by rw [if_neg (show ¬ (false = true) by decide)] at H; exact H
    clear H
    have H := H1
    clear H1
    simp only [Option.some.injEq, Prod.mk.injEq] at H
    obtain ⟨rfl, rfl, rfl, rfl, rfl⟩ := H
    obtain ⟨HGz12, hgz12⟩ := HI0.out
    have hcz12_0 := cellS64_0 HGz12
    have hcz12_1 := cellS64_1 HGz12
    have hcz12_2 := cellS64_2 HGz12
    have hcz12_3 := cellS64_3 HGz12
    have hfz12_0 := blk_frozen HGz12 0
    have hfz12_1 := blk_frozen HGz12 1
    have hfz12_2 := blk_frozen HGz12 2
    have hfz12_3 := blk_frozen HGz12 3
    clear HGz12 hgz12
    go_enter Try.func15, Try.ntmps15
    go_wp2
    go_ret
    exact ⟨by first | rfl | (simp [errW_none, errW_some] <;> rfl) | (simp [*, errW_none, errW_some] <;> rfl), by repeat (first | (with_reducible first | exact HI0.out | apply IsS64.alloc | apply IsS64.drewN | apply IsS64.drew | apply IsS64.set_0 | apply IsS64.set_1 | apply IsS64.set_2 | apply IsS64.set_3) | exact HI0.out), by repeat (first | (with_reducible first | exact HB.out | apply below_alloc | apply pw_below_drewN | apply below_drew1 | refine below_set ?_ (IsS64.ge HI0.out)) | exact HB.out), by repeat (first | (with_reducible first | exact HK.out | apply KeepBut.set_ | apply keep_drewN | apply keep_drew | apply keep_alloc) | exact HK.out)⟩

/-! ### trust_Check: function 7 -/
def trust_Check.f (b0 : Bool) (n1 n2 n3 : Int) (a1 : Int) (l2 : List Int) (a3 : Int) : Option (Bool × Int × Int × Int × List Int × Int) := (trust_Open.f a1 l2).bind fun o => if o.2.2 = true then ((trust_trust_kind.f b0 n1 5 n3 o.2.1 a3).bind fun q => if q.1 = 3 ∨ q.1 = 6 then some (b0, o.2.1, q.1, wrap64 (n3 + 1), [], q.1) else if q.1 = 5 then some (b0, n1, q.1, wrap64 (n3 + 1), [], q.1) else some (true, o.2.1, q.1, 0, o.1, q.1)) else some (b0, n1, 5, wrap64 (n3 + 1), [], 5)
set_option maxHeartbeats 1600000 in
set_option maxRecDepth 100000 in
theorem trust_Check.calls (a0_0 : Bool) (a0_1 a0_2 a0_3 : Int) (a1 : Int) (A2 : Option Addr) (c2 : Nat) (l2 : List Int) (a3 : Int) (r1 : Bool) (r2 r3 r4 : Int) (r5 : List Int) (r6 : Int) (w : World) (hr2 : Kd.C (Kd.int .u8) w A2 l2.length l2) (hc2 : l2.length ≤ c2) (h : trust_Check.f a0_0 a0_1 a0_2 a0_3 a1 l2 a3 = some (r1, r2, r3, r4, r5, r6)) :
    Calls Try.prog 7 #[.agg #[.bool a0_0, .int .i64 a0_1, .int .i64 a0_2, .int .i64 a0_3], .int .i64 a1, .slice A2 l2.length c2, .int .i64 a3] w fun e w' => ∃ v4_ : Value, e = .returned (.tuple #[.agg #[.bool r1, .int .i64 r2, .int .i64 r3, .int .i64 r4], v4_, .int .i64 r6]) ∧ Kd.R (Kd.int .u8) 5 w' w.heap.size (fun _ => True) v4_ r5 ∧ Below w.heap.size w w' := by
  have HR2 := Aside0.mk hr2
  have HC2 := Aside0.mk hc2
  clear hr2 hc2
  unfold trust_Check.f at h
  obtain ⟨⟨o1, o2, o3⟩, hO, h⟩ := Option.bind_eq_some_iff.mp h
  have HOP := Aside0.mk hO
  have H := Aside0.mk h
  clear hO h
  have hu24 := Try.underlying27
  go_enter Try.func7, Try.ntmps7
  go_wp2_with fail
  have hb3 : Below w.heap.size w (((w.alloc (.cells #[.bool a0_0, .int .i64 a0_1, .int .i64 a0_2, .int .i64 a0_3] 27)).alloc (.cells #[.bool false, .int .i64 0, .int .i64 0, .int .i64 0] 27)).alloc (.cells #[.bool a0_0, .int .i64 a0_1, .int .i64 a0_2, .int .i64 a0_3] 64)) := below_alloc (below_alloc (below_alloc (Below.refl _ _) _) _) _
  have hR3 : (((w.alloc (.cells #[.bool a0_0, .int .i64 a0_1, .int .i64 a0_2, .int .i64 a0_3] 27)).alloc (.cells #[.bool false, .int .i64 0, .int .i64 0, .int .i64 0] 27)).alloc (.cells #[.bool a0_0, .int .i64 a0_1, .int .i64 a0_2, .int .i64 a0_3] 64)).heap[w.heap.size + 1]? = some (.cells #[.bool false, .int .i64 0, .int .i64 0, .int .i64 0] 27 (0, 0)) := by
    have := blk_new (w.alloc (.cells #[.bool a0_0, .int .i64 a0_1, .int .i64 a0_2, .int .i64 a0_3] 27)) (.cells #[.bool false, .int .i64 0, .int .i64 0, .int .i64 0] 27)
    rw [World.size_alloc] at this
    exact blk_alloc this _
  have hX3 : (((w.alloc (.cells #[.bool a0_0, .int .i64 a0_1, .int .i64 a0_2, .int .i64 a0_3] 27)).alloc (.cells #[.bool false, .int .i64 0, .int .i64 0, .int .i64 0] 27)).alloc (.cells #[.bool a0_0, .int .i64 a0_1, .int .i64 a0_2, .int .i64 a0_3] 64)).heap[w.heap.size + 1 + 1]? = some (.cells #[.bool a0_0, .int .i64 a0_1, .int .i64 a0_2, .int .i64 a0_3] 64 (0, 0)) := by
    have := blk_new ((w.alloc (.cells #[.bool a0_0, .int .i64 a0_1, .int .i64 a0_2, .int .i64 a0_3] 27)).alloc (.cells #[.bool false, .int .i64 0, .int .i64 0, .int .i64 0] 27)) (.cells #[.bool a0_0, .int .i64 a0_1, .int .i64 a0_2, .int .i64 a0_3] 64)
    rw [World.size_alloc, World.size_alloc] at this
    exact this
  generalize (((w.alloc (.cells #[.bool a0_0, .int .i64 a0_1, .int .i64 a0_2, .int .i64 a0_3] 27)).alloc (.cells #[.bool false, .int .i64 0, .int .i64 0, .int .i64 0] 27)).alloc (.cells #[.bool a0_0, .int .i64 a0_1, .int .i64 a0_2, .int .i64 a0_3] 64)) = W3 at *
  refine (trust_Open.calls a1 A2 c2 l2 o1 o2 o3 _ (Kd.C_below HR2.out hb3) HC2.out HOP.out).mono ?_
  rintro e W4 ⟨v1, rfl, ho, hb4⟩
  have hR4 := blk_below hR3 hb4
  have hX4 := blk_below hX3 hb4
  have hB4 : Below w.heap.size w W4 := hb3.trans (hb4.mono hb3.size)
  have HO := Aside0.mk ho
  have HR4 := Aside0.mk hR4
  have HX4 := Aside0.mk hX4
  have HB4 := Aside0.mk hB4
  have H3 := Aside0.mk (blk_lt hX3)
  have c42 : W4.cell? ⟨w.heap.size + 1 + 1, 2, none⟩ = some (.int .i64 a0_2) := by rw [blk_cell hX4]; rfl
  have f2 : W4.frozen? ⟨w.heap.size + 1 + 1, 2, none⟩ = false := blk_frozen hX4 2
  have hX5 := blk_set hX4 2 (.int .i64 5)
  have c52 : (W4.setCell ⟨w.heap.size + 1 + 1, 2, none⟩ (.int .i64 5)).cell? ⟨w.heap.size + 1 + 1, 2, none⟩ = some (.int .i64 5) := by rw [blk_cell hX5]; rfl
  have c53 : (W4.setCell ⟨w.heap.size + 1 + 1, 2, none⟩ (.int .i64 5)).cell? ⟨w.heap.size + 1 + 1, 3, none⟩ = some (.int .i64 a0_3) := by rw [blk_cell hX5]; rfl
  have f53 : (W4.setCell ⟨w.heap.size + 1 + 1, 2, none⟩ (.int .i64 5)).frozen? ⟨w.heap.size + 1 + 1, 3, none⟩ = false := blk_frozen hX5 3
  have HX5 := Aside0.mk hX5
  clear hX5 hX4 hR4 hB4 hb4 ho hR3 hX3 hb3 h
  have h := H.out
  cases o3 with
  | false =>
    rw [if_neg (by decide)] at h
    have hX6 := blk_set HX5.out 3 (.int .i64 (wrap64 (a0_3 + 1)))
    have hR6 := blk_far (blk_far HR4.out (p := ⟨w.heap.size + 1 + 1, 2, none⟩) (by show w.heap.size + 1 ≠ w.heap.size + 1 + 1; omega) (.int .i64 5)) (p := ⟨w.heap.size + 1 + 1, 3, none⟩) (by show w.heap.size + 1 ≠ w.heap.size + 1 + 1; omega) (.int .i64 (wrap64 (a0_3 + 1)))
    have c60 : ((W4.setCell ⟨w.heap.size + 1 + 1, 2, none⟩ (.int .i64 5)).setCell ⟨w.heap.size + 1 + 1, 3, none⟩ (.int .i64 (wrap64 (a0_3 + 1)))).cell? ⟨w.heap.size + 1 + 1, 0, none⟩ = some (.bool a0_0) := by rw [blk_cell hX6]; rfl
    have c61 : ((W4.setCell ⟨w.heap.size + 1 + 1, 2, none⟩ (.int .i64 5)).setCell ⟨w.heap.size + 1 + 1, 3, none⟩ (.int .i64 (wrap64 (a0_3 + 1)))).cell? ⟨w.heap.size + 1 + 1, 1, none⟩ = some (.int .i64 a0_1) := by rw [blk_cell hX6]; rfl
    have c62 : ((W4.setCell ⟨w.heap.size + 1 + 1, 2, none⟩ (.int .i64 5)).setCell ⟨w.heap.size + 1 + 1, 3, none⟩ (.int .i64 (wrap64 (a0_3 + 1)))).cell? ⟨w.heap.size + 1 + 1, 2, none⟩ = some (.int .i64 5) := by rw [blk_cell hX6]; rfl
    have c63 : ((W4.setCell ⟨w.heap.size + 1 + 1, 2, none⟩ (.int .i64 5)).setCell ⟨w.heap.size + 1 + 1, 3, none⟩ (.int .i64 (wrap64 (a0_3 + 1)))).cell? ⟨w.heap.size + 1 + 1, 3, none⟩ = some (.int .i64 (wrap64 (a0_3 + 1))) := by rw [blk_cell hX6]; rfl
    have r60 : ((W4.setCell ⟨w.heap.size + 1 + 1, 2, none⟩ (.int .i64 5)).setCell ⟨w.heap.size + 1 + 1, 3, none⟩ (.int .i64 (wrap64 (a0_3 + 1)))).cell? ⟨w.heap.size + 1, 0, none⟩ = some (.bool false) := by rw [blk_cell hR6]; rfl
    have g60 : ((W4.setCell ⟨w.heap.size + 1 + 1, 2, none⟩ (.int .i64 5)).setCell ⟨w.heap.size + 1 + 1, 3, none⟩ (.int .i64 (wrap64 (a0_3 + 1)))).frozen? ⟨w.heap.size + 1, 0, none⟩ = false := blk_frozen hR6 0
    have r61 : ((W4.setCell ⟨w.heap.size + 1 + 1, 2, none⟩ (.int .i64 5)).setCell ⟨w.heap.size + 1 + 1, 3, none⟩ (.int .i64 (wrap64 (a0_3 + 1)))).cell? ⟨w.heap.size + 1, 1, none⟩ = some (.int .i64 0) := by rw [blk_cell hR6]; rfl
    have g61 : ((W4.setCell ⟨w.heap.size + 1 + 1, 2, none⟩ (.int .i64 5)).setCell ⟨w.heap.size + 1 + 1, 3, none⟩ (.int .i64 (wrap64 (a0_3 + 1)))).frozen? ⟨w.heap.size + 1, 1, none⟩ = false := blk_frozen hR6 1
    have r62 : ((W4.setCell ⟨w.heap.size + 1 + 1, 2, none⟩ (.int .i64 5)).setCell ⟨w.heap.size + 1 + 1, 3, none⟩ (.int .i64 (wrap64 (a0_3 + 1)))).cell? ⟨w.heap.size + 1, 2, none⟩ = some (.int .i64 0) := by rw [blk_cell hR6]; rfl
    have g62 : ((W4.setCell ⟨w.heap.size + 1 + 1, 2, none⟩ (.int .i64 5)).setCell ⟨w.heap.size + 1 + 1, 3, none⟩ (.int .i64 (wrap64 (a0_3 + 1)))).frozen? ⟨w.heap.size + 1, 2, none⟩ = false := blk_frozen hR6 2
    have r63 : ((W4.setCell ⟨w.heap.size + 1 + 1, 2, none⟩ (.int .i64 5)).setCell ⟨w.heap.size + 1 + 1, 3, none⟩ (.int .i64 (wrap64 (a0_3 + 1)))).cell? ⟨w.heap.size + 1, 3, none⟩ = some (.int .i64 0) := by rw [blk_cell hR6]; rfl
    have g63 : ((W4.setCell ⟨w.heap.size + 1 + 1, 2, none⟩ (.int .i64 5)).setCell ⟨w.heap.size + 1 + 1, 3, none⟩ (.int .i64 (wrap64 (a0_3 + 1)))).frozen? ⟨w.heap.size + 1, 3, none⟩ = false := blk_frozen hR6 3
    go_wp2_with fail
    go_region
    go_wp2_with fail
    have h1 := Option.some.inj h
    clear h
    obtain ⟨rfl, h2⟩ := Prod.mk.inj h1
    obtain ⟨rfl, h3⟩ := Prod.mk.inj h2
    obtain ⟨rfl, h4⟩ := Prod.mk.inj h3
    obtain ⟨rfl, h5⟩ := Prod.mk.inj h4
    obtain ⟨rfl, rfl⟩ := Prod.mk.inj h5
    have hx := H3.out
    refine bodyPost_ret (results_ctt rfl _ _ (w.heap.size + 1) 27 #[.bool a0_0, .int .i64 a0_1, .int .i64 5, .int .i64 (wrap64 (a0_3 + 1))] (0, 0) _ rfl (blk_drew (blk_put (cs := #[.bool a0_0, .int .i64 a0_1, .int .i64 5, .int .i64 0]) (blk_put (cs := #[.bool a0_0, .int .i64 a0_1, .int .i64 0, .int .i64 0]) (blk_put (cs := #[.bool a0_0, .int .i64 0, .int .i64 0, .int .i64 0]) (blk_put (cs := #[.bool false, .int .i64 0, .int .i64 0, .int .i64 0]) hR6 0 _ rfl) 1 _ rfl) 2 _ rfl) 3 _ rfl)) Try.underlying27 rfl (by kernel_rfl)) rfl ?_
    exact ⟨_, rfl, Kd.R_nil _ _ _ _ _, below_drew1 ((((((HB4.out.setCell (p := ⟨w.heap.size + 1 + 1, 2, none⟩) (by show w.heap.size ≤ w.heap.size + 1 + 1; omega) _).setCell (p := ⟨w.heap.size + 1 + 1, 3, none⟩) (by show w.heap.size ≤ w.heap.size + 1 + 1; omega) _).setCell (p := ⟨w.heap.size + 1, 0, none⟩) (by show w.heap.size ≤ w.heap.size + 1; omega) _).setCell (p := ⟨w.heap.size + 1, 1, none⟩) (by show w.heap.size ≤ w.heap.size + 1; omega) _).setCell (p := ⟨w.heap.size + 1, 2, none⟩) (by show w.heap.size ≤ w.heap.size + 1; omega) _).setCell (p := ⟨w.heap.size + 1, 3, none⟩) (by show w.heap.size ≤ w.heap.size + 1; omega) _)⟩
  | true =>
    rw [if_pos rfl] at h
    obtain ⟨⟨q1, q2, q3, q4, q5⟩, hq, h⟩ := Option.bind_eq_some_iff.mp h
    have hsame : a0_0 = q2 ∧ a0_1 = q3 ∧ 5 = q4 ∧ a0_3 = q5 := by
      unfold trust_trust_kind.f at hq
      repeat' split at hq
      all_goals (have := Option.some.inj hq; simp only [Prod.mk.injEq] at this; exact this.2)
    obtain ⟨rfl, rfl, rfl, rfl⟩ := hsame
    have HQ := Aside0.mk hq
    clear hq
    have hR5 := blk_far HR4.out (p := ⟨w.heap.size + 1 + 1, 2, none⟩) (by show w.heap.size + 1 ≠ w.heap.size + 1 + 1; omega) (.int .i64 5)
    have HR5 := Aside0.mk hR5
    have HB5 := Aside0.mk (HB4.out.setCell (p := ⟨w.heap.size + 1 + 1, 2, none⟩) (by show w.heap.size ≤ w.heap.size + 1 + 1; omega) (.int .i64 5))
    have HO5 := Aside0.mk (Kd.R_kept (S := fun k => k = w.heap.size + 1 + 1) (Kd.R_bound HO.out) ((Kept.refl W4 (fun k => k = w.heap.size + 1 + 1)).setCell (p := ⟨w.heap.size + 1 + 1, 2, none⟩) (.inl rfl) (.int .i64 5)) (fun k hk e => by have := hk.2.1; have := H3.out; omega))
    clear hR5
    go_wp2_with fail
    refine (trust_trust_kind.calls (w.heap.size + 1 + 1) a0_0 a0_1 5 a0_3 o2 a3 q1 _ _ _ _ w _ ⟨HX5.out, by omega⟩ HB5.out HQ.out).mono ?_
    rintro e W6 ⟨rfl, hI6, hB6, hk6⟩
    have hX6 : W6.heap[w.heap.size + 1 + 1]? = some (.cells #[.bool a0_0, .int .i64 a0_1, .int .i64 5, .int .i64 a0_3] 64 (0, 0)) := hI6.1
    have hR6 : W6.heap[w.heap.size + 1]? = some (.cells #[.bool false, .int .i64 0, .int .i64 0, .int .i64 0] 27 (0, 0)) := (hk6.2 _ (blk_lt HR5.out) (by omega) (by simp)).trans HR5.out
    have HO6 := Aside0.mk (Kd.R_kept (S := fun k => k = w.heap.size + 1 + 1) (Kd.R_bound HO5.out) ((Kept.refl _ (fun k => k = w.heap.size + 1 + 1)).of_keep hk6 (.inl rfl)) (fun k hk e => by have := hk.2.1; have := H3.out; omega))
    have HB6 := Aside0.mk hB6
    have c62 : W6.cell? ⟨w.heap.size + 1 + 1, 2, none⟩ = some (.int .i64 5) := by rw [blk_cell hX6]; rfl
    clear hI6 hB6 hk6 c42 f2 c52 c53 f53
    by_cases d3 : q1 = 3
    · subst d3
      rw [if_pos (.inl rfl)] at h
      have fa0 : W6.frozen? ⟨w.heap.size + 1 + 1, 2, none⟩ = false := blk_frozen hX6 2
      have hXa0 : (W6.setCell ⟨w.heap.size + 1 + 1, 2, none⟩ (.int .i64 3)).heap[w.heap.size + 1 + 1]? = some (.cells #[.bool a0_0, .int .i64 a0_1, .int .i64 3, .int .i64 a0_3] 64 (0, 0)) := blk_put hX6 2 _ rfl
      have hRa0 := blk_far hR6 (p := ⟨w.heap.size + 1 + 1, 2, none⟩) (by show w.heap.size + 1 ≠ w.heap.size + 1 + 1; omega) (.int .i64 3)
      have ca00 : (W6.setCell ⟨w.heap.size + 1 + 1, 2, none⟩ (.int .i64 3)).cell? ⟨w.heap.size + 1 + 1, 0, none⟩ = some (.bool a0_0) := by rw [blk_cell hXa0]; rfl
      have ca01 : (W6.setCell ⟨w.heap.size + 1 + 1, 2, none⟩ (.int .i64 3)).cell? ⟨w.heap.size + 1 + 1, 1, none⟩ = some (.int .i64 a0_1) := by rw [blk_cell hXa0]; rfl
      have ca02 : (W6.setCell ⟨w.heap.size + 1 + 1, 2, none⟩ (.int .i64 3)).cell? ⟨w.heap.size + 1 + 1, 2, none⟩ = some (.int .i64 3) := by rw [blk_cell hXa0]; rfl
      have ca03 : (W6.setCell ⟨w.heap.size + 1 + 1, 2, none⟩ (.int .i64 3)).cell? ⟨w.heap.size + 1 + 1, 3, none⟩ = some (.int .i64 a0_3) := by rw [blk_cell hXa0]; rfl
      have fa1 : (W6.setCell ⟨w.heap.size + 1 + 1, 2, none⟩ (.int .i64 3)).frozen? ⟨w.heap.size + 1 + 1, 1, none⟩ = false := blk_frozen hXa0 1
      have hXa1 : ((W6.setCell ⟨w.heap.size + 1 + 1, 2, none⟩ (.int .i64 3)).setCell ⟨w.heap.size + 1 + 1, 1, none⟩ (.int .i64 o2)).heap[w.heap.size + 1 + 1]? = some (.cells #[.bool a0_0, .int .i64 o2, .int .i64 3, .int .i64 a0_3] 64 (0, 0)) := blk_put hXa0 1 _ rfl
      have hRa1 := blk_far hRa0 (p := ⟨w.heap.size + 1 + 1, 1, none⟩) (by show w.heap.size + 1 ≠ w.heap.size + 1 + 1; omega) (.int .i64 o2)
      have ca10 : ((W6.setCell ⟨w.heap.size + 1 + 1, 2, none⟩ (.int .i64 3)).setCell ⟨w.heap.size + 1 + 1, 1, none⟩ (.int .i64 o2)).cell? ⟨w.heap.size + 1 + 1, 0, none⟩ = some (.bool a0_0) := by rw [blk_cell hXa1]; rfl
      have ca11 : ((W6.setCell ⟨w.heap.size + 1 + 1, 2, none⟩ (.int .i64 3)).setCell ⟨w.heap.size + 1 + 1, 1, none⟩ (.int .i64 o2)).cell? ⟨w.heap.size + 1 + 1, 1, none⟩ = some (.int .i64 o2) := by rw [blk_cell hXa1]; rfl
      have ca12 : ((W6.setCell ⟨w.heap.size + 1 + 1, 2, none⟩ (.int .i64 3)).setCell ⟨w.heap.size + 1 + 1, 1, none⟩ (.int .i64 o2)).cell? ⟨w.heap.size + 1 + 1, 2, none⟩ = some (.int .i64 3) := by rw [blk_cell hXa1]; rfl
      have ca13 : ((W6.setCell ⟨w.heap.size + 1 + 1, 2, none⟩ (.int .i64 3)).setCell ⟨w.heap.size + 1 + 1, 1, none⟩ (.int .i64 o2)).cell? ⟨w.heap.size + 1 + 1, 3, none⟩ = some (.int .i64 a0_3) := by rw [blk_cell hXa1]; rfl
      have fa2 : ((W6.setCell ⟨w.heap.size + 1 + 1, 2, none⟩ (.int .i64 3)).setCell ⟨w.heap.size + 1 + 1, 1, none⟩ (.int .i64 o2)).frozen? ⟨w.heap.size + 1 + 1, 3, none⟩ = false := blk_frozen hXa1 3
      have hXa2 : (((W6.setCell ⟨w.heap.size + 1 + 1, 2, none⟩ (.int .i64 3)).setCell ⟨w.heap.size + 1 + 1, 1, none⟩ (.int .i64 o2)).setCell ⟨w.heap.size + 1 + 1, 3, none⟩ (.int .i64 (wrap64 (a0_3 + 1)))).heap[w.heap.size + 1 + 1]? = some (.cells #[.bool a0_0, .int .i64 o2, .int .i64 3, .int .i64 (wrap64 (a0_3 + 1))] 64 (0, 0)) := blk_put hXa1 3 _ rfl
      have hRa2 := blk_far hRa1 (p := ⟨w.heap.size + 1 + 1, 3, none⟩) (by show w.heap.size + 1 ≠ w.heap.size + 1 + 1; omega) (.int .i64 (wrap64 (a0_3 + 1)))
      have ca20 : (((W6.setCell ⟨w.heap.size + 1 + 1, 2, none⟩ (.int .i64 3)).setCell ⟨w.heap.size + 1 + 1, 1, none⟩ (.int .i64 o2)).setCell ⟨w.heap.size + 1 + 1, 3, none⟩ (.int .i64 (wrap64 (a0_3 + 1)))).cell? ⟨w.heap.size + 1 + 1, 0, none⟩ = some (.bool a0_0) := by rw [blk_cell hXa2]; rfl
      have ca21 : (((W6.setCell ⟨w.heap.size + 1 + 1, 2, none⟩ (.int .i64 3)).setCell ⟨w.heap.size + 1 + 1, 1, none⟩ (.int .i64 o2)).setCell ⟨w.heap.size + 1 + 1, 3, none⟩ (.int .i64 (wrap64 (a0_3 + 1)))).cell? ⟨w.heap.size + 1 + 1, 1, none⟩ = some (.int .i64 o2) := by rw [blk_cell hXa2]; rfl
      have ca22 : (((W6.setCell ⟨w.heap.size + 1 + 1, 2, none⟩ (.int .i64 3)).setCell ⟨w.heap.size + 1 + 1, 1, none⟩ (.int .i64 o2)).setCell ⟨w.heap.size + 1 + 1, 3, none⟩ (.int .i64 (wrap64 (a0_3 + 1)))).cell? ⟨w.heap.size + 1 + 1, 2, none⟩ = some (.int .i64 3) := by rw [blk_cell hXa2]; rfl
      have ca23 : (((W6.setCell ⟨w.heap.size + 1 + 1, 2, none⟩ (.int .i64 3)).setCell ⟨w.heap.size + 1 + 1, 1, none⟩ (.int .i64 o2)).setCell ⟨w.heap.size + 1 + 1, 3, none⟩ (.int .i64 (wrap64 (a0_3 + 1)))).cell? ⟨w.heap.size + 1 + 1, 3, none⟩ = some (.int .i64 (wrap64 (a0_3 + 1))) := by rw [blk_cell hXa2]; rfl
      have ra0 : (((W6.setCell ⟨w.heap.size + 1 + 1, 2, none⟩ (.int .i64 3)).setCell ⟨w.heap.size + 1 + 1, 1, none⟩ (.int .i64 o2)).setCell ⟨w.heap.size + 1 + 1, 3, none⟩ (.int .i64 (wrap64 (a0_3 + 1)))).cell? ⟨w.heap.size + 1, 0, none⟩ = some (.bool false) := by rw [blk_cell hRa2]; rfl
      have ga0 : (((W6.setCell ⟨w.heap.size + 1 + 1, 2, none⟩ (.int .i64 3)).setCell ⟨w.heap.size + 1 + 1, 1, none⟩ (.int .i64 o2)).setCell ⟨w.heap.size + 1 + 1, 3, none⟩ (.int .i64 (wrap64 (a0_3 + 1)))).frozen? ⟨w.heap.size + 1, 0, none⟩ = false := blk_frozen hRa2 0
      have ra1 : (((W6.setCell ⟨w.heap.size + 1 + 1, 2, none⟩ (.int .i64 3)).setCell ⟨w.heap.size + 1 + 1, 1, none⟩ (.int .i64 o2)).setCell ⟨w.heap.size + 1 + 1, 3, none⟩ (.int .i64 (wrap64 (a0_3 + 1)))).cell? ⟨w.heap.size + 1, 1, none⟩ = some (.int .i64 0) := by rw [blk_cell hRa2]; rfl
      have ga1 : (((W6.setCell ⟨w.heap.size + 1 + 1, 2, none⟩ (.int .i64 3)).setCell ⟨w.heap.size + 1 + 1, 1, none⟩ (.int .i64 o2)).setCell ⟨w.heap.size + 1 + 1, 3, none⟩ (.int .i64 (wrap64 (a0_3 + 1)))).frozen? ⟨w.heap.size + 1, 1, none⟩ = false := blk_frozen hRa2 1
      have ra2 : (((W6.setCell ⟨w.heap.size + 1 + 1, 2, none⟩ (.int .i64 3)).setCell ⟨w.heap.size + 1 + 1, 1, none⟩ (.int .i64 o2)).setCell ⟨w.heap.size + 1 + 1, 3, none⟩ (.int .i64 (wrap64 (a0_3 + 1)))).cell? ⟨w.heap.size + 1, 2, none⟩ = some (.int .i64 0) := by rw [blk_cell hRa2]; rfl
      have ga2 : (((W6.setCell ⟨w.heap.size + 1 + 1, 2, none⟩ (.int .i64 3)).setCell ⟨w.heap.size + 1 + 1, 1, none⟩ (.int .i64 o2)).setCell ⟨w.heap.size + 1 + 1, 3, none⟩ (.int .i64 (wrap64 (a0_3 + 1)))).frozen? ⟨w.heap.size + 1, 2, none⟩ = false := blk_frozen hRa2 2
      have ra3 : (((W6.setCell ⟨w.heap.size + 1 + 1, 2, none⟩ (.int .i64 3)).setCell ⟨w.heap.size + 1 + 1, 1, none⟩ (.int .i64 o2)).setCell ⟨w.heap.size + 1 + 1, 3, none⟩ (.int .i64 (wrap64 (a0_3 + 1)))).cell? ⟨w.heap.size + 1, 3, none⟩ = some (.int .i64 0) := by rw [blk_cell hRa2]; rfl
      have ga3 : (((W6.setCell ⟨w.heap.size + 1 + 1, 2, none⟩ (.int .i64 3)).setCell ⟨w.heap.size + 1 + 1, 1, none⟩ (.int .i64 o2)).setCell ⟨w.heap.size + 1 + 1, 3, none⟩ (.int .i64 (wrap64 (a0_3 + 1)))).frozen? ⟨w.heap.size + 1, 3, none⟩ = false := blk_frozen hRa2 3
      go_wp2_with fail
      go_region
      go_wp2_with fail
      have h1 := Option.some.inj h
      clear h
      obtain ⟨rfl, h2⟩ := Prod.mk.inj h1
      obtain ⟨rfl, h3⟩ := Prod.mk.inj h2
      obtain ⟨rfl, h4⟩ := Prod.mk.inj h3
      obtain ⟨rfl, h5⟩ := Prod.mk.inj h4
      obtain ⟨rfl, rfl⟩ := Prod.mk.inj h5
      refine bodyPost_ret (results_ctt rfl _ _ (w.heap.size + 1) 27 #[.bool a0_0, .int .i64 o2, .int .i64 3, .int .i64 (wrap64 (a0_3 + 1))] (0, 0) _ rfl (blk_drew (blk_put (cs := #[.bool a0_0, .int .i64 o2, .int .i64 3, .int .i64 0]) (blk_put (cs := #[.bool a0_0, .int .i64 o2, .int .i64 0, .int .i64 0]) (blk_put (cs := #[.bool a0_0, .int .i64 0, .int .i64 0, .int .i64 0]) (blk_put (cs := #[.bool false, .int .i64 0, .int .i64 0, .int .i64 0]) hRa2 0 _ rfl) 1 _ rfl) 2 _ rfl) 3 _ rfl)) Try.underlying27 rfl (by kernel_rfl)) rfl ?_
      exact ⟨_, rfl, Kd.R_nil _ _ _ _ _, below_drew1 (((((((HB6.out.setCell (p := ⟨w.heap.size + 1 + 1, 2, none⟩) (by show w.heap.size ≤ w.heap.size + 1 + 1; omega) _).setCell (p := ⟨w.heap.size + 1 + 1, 1, none⟩) (by show w.heap.size ≤ w.heap.size + 1 + 1; omega) _).setCell (p := ⟨w.heap.size + 1 + 1, 3, none⟩) (by show w.heap.size ≤ w.heap.size + 1 + 1; omega) _).setCell (p := ⟨w.heap.size + 1, 0, none⟩) (by show w.heap.size ≤ w.heap.size + 1; omega) _).setCell (p := ⟨w.heap.size + 1, 1, none⟩) (by show w.heap.size ≤ w.heap.size + 1; omega) _).setCell (p := ⟨w.heap.size + 1, 2, none⟩) (by show w.heap.size ≤ w.heap.size + 1; omega) _).setCell (p := ⟨w.heap.size + 1, 3, none⟩) (by show w.heap.size ≤ w.heap.size + 1; omega) _)⟩
    by_cases d6 : q1 = 6
    · subst d6
      rw [if_pos (.inr rfl)] at h
      have fb0 : W6.frozen? ⟨w.heap.size + 1 + 1, 2, none⟩ = false := blk_frozen hX6 2
      have hXb0 : (W6.setCell ⟨w.heap.size + 1 + 1, 2, none⟩ (.int .i64 6)).heap[w.heap.size + 1 + 1]? = some (.cells #[.bool a0_0, .int .i64 a0_1, .int .i64 6, .int .i64 a0_3] 64 (0, 0)) := blk_put hX6 2 _ rfl
      have hRb0 := blk_far hR6 (p := ⟨w.heap.size + 1 + 1, 2, none⟩) (by show w.heap.size + 1 ≠ w.heap.size + 1 + 1; omega) (.int .i64 6)
      have cb00 : (W6.setCell ⟨w.heap.size + 1 + 1, 2, none⟩ (.int .i64 6)).cell? ⟨w.heap.size + 1 + 1, 0, none⟩ = some (.bool a0_0) := by rw [blk_cell hXb0]; rfl
      have cb01 : (W6.setCell ⟨w.heap.size + 1 + 1, 2, none⟩ (.int .i64 6)).cell? ⟨w.heap.size + 1 + 1, 1, none⟩ = some (.int .i64 a0_1) := by rw [blk_cell hXb0]; rfl
      have cb02 : (W6.setCell ⟨w.heap.size + 1 + 1, 2, none⟩ (.int .i64 6)).cell? ⟨w.heap.size + 1 + 1, 2, none⟩ = some (.int .i64 6) := by rw [blk_cell hXb0]; rfl
      have cb03 : (W6.setCell ⟨w.heap.size + 1 + 1, 2, none⟩ (.int .i64 6)).cell? ⟨w.heap.size + 1 + 1, 3, none⟩ = some (.int .i64 a0_3) := by rw [blk_cell hXb0]; rfl
      have fb1 : (W6.setCell ⟨w.heap.size + 1 + 1, 2, none⟩ (.int .i64 6)).frozen? ⟨w.heap.size + 1 + 1, 1, none⟩ = false := blk_frozen hXb0 1
      have hXb1 : ((W6.setCell ⟨w.heap.size + 1 + 1, 2, none⟩ (.int .i64 6)).setCell ⟨w.heap.size + 1 + 1, 1, none⟩ (.int .i64 o2)).heap[w.heap.size + 1 + 1]? = some (.cells #[.bool a0_0, .int .i64 o2, .int .i64 6, .int .i64 a0_3] 64 (0, 0)) := blk_put hXb0 1 _ rfl
      have hRb1 := blk_far hRb0 (p := ⟨w.heap.size + 1 + 1, 1, none⟩) (by show w.heap.size + 1 ≠ w.heap.size + 1 + 1; omega) (.int .i64 o2)
      have cb10 : ((W6.setCell ⟨w.heap.size + 1 + 1, 2, none⟩ (.int .i64 6)).setCell ⟨w.heap.size + 1 + 1, 1, none⟩ (.int .i64 o2)).cell? ⟨w.heap.size + 1 + 1, 0, none⟩ = some (.bool a0_0) := by rw [blk_cell hXb1]; rfl
      have cb11 : ((W6.setCell ⟨w.heap.size + 1 + 1, 2, none⟩ (.int .i64 6)).setCell ⟨w.heap.size + 1 + 1, 1, none⟩ (.int .i64 o2)).cell? ⟨w.heap.size + 1 + 1, 1, none⟩ = some (.int .i64 o2) := by rw [blk_cell hXb1]; rfl
      have cb12 : ((W6.setCell ⟨w.heap.size + 1 + 1, 2, none⟩ (.int .i64 6)).setCell ⟨w.heap.size + 1 + 1, 1, none⟩ (.int .i64 o2)).cell? ⟨w.heap.size + 1 + 1, 2, none⟩ = some (.int .i64 6) := by rw [blk_cell hXb1]; rfl
      have cb13 : ((W6.setCell ⟨w.heap.size + 1 + 1, 2, none⟩ (.int .i64 6)).setCell ⟨w.heap.size + 1 + 1, 1, none⟩ (.int .i64 o2)).cell? ⟨w.heap.size + 1 + 1, 3, none⟩ = some (.int .i64 a0_3) := by rw [blk_cell hXb1]; rfl
      have fb2 : ((W6.setCell ⟨w.heap.size + 1 + 1, 2, none⟩ (.int .i64 6)).setCell ⟨w.heap.size + 1 + 1, 1, none⟩ (.int .i64 o2)).frozen? ⟨w.heap.size + 1 + 1, 3, none⟩ = false := blk_frozen hXb1 3
      have hXb2 : (((W6.setCell ⟨w.heap.size + 1 + 1, 2, none⟩ (.int .i64 6)).setCell ⟨w.heap.size + 1 + 1, 1, none⟩ (.int .i64 o2)).setCell ⟨w.heap.size + 1 + 1, 3, none⟩ (.int .i64 (wrap64 (a0_3 + 1)))).heap[w.heap.size + 1 + 1]? = some (.cells #[.bool a0_0, .int .i64 o2, .int .i64 6, .int .i64 (wrap64 (a0_3 + 1))] 64 (0, 0)) := blk_put hXb1 3 _ rfl
      have hRb2 := blk_far hRb1 (p := ⟨w.heap.size + 1 + 1, 3, none⟩) (by show w.heap.size + 1 ≠ w.heap.size + 1 + 1; omega) (.int .i64 (wrap64 (a0_3 + 1)))
      have cb20 : (((W6.setCell ⟨w.heap.size + 1 + 1, 2, none⟩ (.int .i64 6)).setCell ⟨w.heap.size + 1 + 1, 1, none⟩ (.int .i64 o2)).setCell ⟨w.heap.size + 1 + 1, 3, none⟩ (.int .i64 (wrap64 (a0_3 + 1)))).cell? ⟨w.heap.size + 1 + 1, 0, none⟩ = some (.bool a0_0) := by rw [blk_cell hXb2]; rfl
      have cb21 : (((W6.setCell ⟨w.heap.size + 1 + 1, 2, none⟩ (.int .i64 6)).setCell ⟨w.heap.size + 1 + 1, 1, none⟩ (.int .i64 o2)).setCell ⟨w.heap.size + 1 + 1, 3, none⟩ (.int .i64 (wrap64 (a0_3 + 1)))).cell? ⟨w.heap.size + 1 + 1, 1, none⟩ = some (.int .i64 o2) := by rw [blk_cell hXb2]; rfl
      have cb22 : (((W6.setCell ⟨w.heap.size + 1 + 1, 2, none⟩ (.int .i64 6)).setCell ⟨w.heap.size + 1 + 1, 1, none⟩ (.int .i64 o2)).setCell ⟨w.heap.size + 1 + 1, 3, none⟩ (.int .i64 (wrap64 (a0_3 + 1)))).cell? ⟨w.heap.size + 1 + 1, 2, none⟩ = some (.int .i64 6) := by rw [blk_cell hXb2]; rfl
      have cb23 : (((W6.setCell ⟨w.heap.size + 1 + 1, 2, none⟩ (.int .i64 6)).setCell ⟨w.heap.size + 1 + 1, 1, none⟩ (.int .i64 o2)).setCell ⟨w.heap.size + 1 + 1, 3, none⟩ (.int .i64 (wrap64 (a0_3 + 1)))).cell? ⟨w.heap.size + 1 + 1, 3, none⟩ = some (.int .i64 (wrap64 (a0_3 + 1))) := by rw [blk_cell hXb2]; rfl
      have rb0 : (((W6.setCell ⟨w.heap.size + 1 + 1, 2, none⟩ (.int .i64 6)).setCell ⟨w.heap.size + 1 + 1, 1, none⟩ (.int .i64 o2)).setCell ⟨w.heap.size + 1 + 1, 3, none⟩ (.int .i64 (wrap64 (a0_3 + 1)))).cell? ⟨w.heap.size + 1, 0, none⟩ = some (.bool false) := by rw [blk_cell hRb2]; rfl
      have gb0 : (((W6.setCell ⟨w.heap.size + 1 + 1, 2, none⟩ (.int .i64 6)).setCell ⟨w.heap.size + 1 + 1, 1, none⟩ (.int .i64 o2)).setCell ⟨w.heap.size + 1 + 1, 3, none⟩ (.int .i64 (wrap64 (a0_3 + 1)))).frozen? ⟨w.heap.size + 1, 0, none⟩ = false := blk_frozen hRb2 0
      have rb1 : (((W6.setCell ⟨w.heap.size + 1 + 1, 2, none⟩ (.int .i64 6)).setCell ⟨w.heap.size + 1 + 1, 1, none⟩ (.int .i64 o2)).setCell ⟨w.heap.size + 1 + 1, 3, none⟩ (.int .i64 (wrap64 (a0_3 + 1)))).cell? ⟨w.heap.size + 1, 1, none⟩ = some (.int .i64 0) := by rw [blk_cell hRb2]; rfl
      have gb1 : (((W6.setCell ⟨w.heap.size + 1 + 1, 2, none⟩ (.int .i64 6)).setCell ⟨w.heap.size + 1 + 1, 1, none⟩ (.int .i64 o2)).setCell ⟨w.heap.size + 1 + 1, 3, none⟩ (.int .i64 (wrap64 (a0_3 + 1)))).frozen? ⟨w.heap.size + 1, 1, none⟩ = false := blk_frozen hRb2 1
      have rb2 : (((W6.setCell ⟨w.heap.size + 1 + 1, 2, none⟩ (.int .i64 6)).setCell ⟨w.heap.size + 1 + 1, 1, none⟩ (.int .i64 o2)).setCell ⟨w.heap.size + 1 + 1, 3, none⟩ (.int .i64 (wrap64 (a0_3 + 1)))).cell? ⟨w.heap.size + 1, 2, none⟩ = some (.int .i64 0) := by rw [blk_cell hRb2]; rfl
      have gb2 : (((W6.setCell ⟨w.heap.size + 1 + 1, 2, none⟩ (.int .i64 6)).setCell ⟨w.heap.size + 1 + 1, 1, none⟩ (.int .i64 o2)).setCell ⟨w.heap.size + 1 + 1, 3, none⟩ (.int .i64 (wrap64 (a0_3 + 1)))).frozen? ⟨w.heap.size + 1, 2, none⟩ = false := blk_frozen hRb2 2
      have rb3 : (((W6.setCell ⟨w.heap.size + 1 + 1, 2, none⟩ (.int .i64 6)).setCell ⟨w.heap.size + 1 + 1, 1, none⟩ (.int .i64 o2)).setCell ⟨w.heap.size + 1 + 1, 3, none⟩ (.int .i64 (wrap64 (a0_3 + 1)))).cell? ⟨w.heap.size + 1, 3, none⟩ = some (.int .i64 0) := by rw [blk_cell hRb2]; rfl
      have gb3 : (((W6.setCell ⟨w.heap.size + 1 + 1, 2, none⟩ (.int .i64 6)).setCell ⟨w.heap.size + 1 + 1, 1, none⟩ (.int .i64 o2)).setCell ⟨w.heap.size + 1 + 1, 3, none⟩ (.int .i64 (wrap64 (a0_3 + 1)))).frozen? ⟨w.heap.size + 1, 3, none⟩ = false := blk_frozen hRb2 3
      go_wp2_with fail
      go_region
      go_wp2_with fail
      have h1 := Option.some.inj h
      clear h
      obtain ⟨rfl, h2⟩ := Prod.mk.inj h1
      obtain ⟨rfl, h3⟩ := Prod.mk.inj h2
      obtain ⟨rfl, h4⟩ := Prod.mk.inj h3
      obtain ⟨rfl, h5⟩ := Prod.mk.inj h4
      obtain ⟨rfl, rfl⟩ := Prod.mk.inj h5
      refine bodyPost_ret (results_ctt rfl _ _ (w.heap.size + 1) 27 #[.bool a0_0, .int .i64 o2, .int .i64 6, .int .i64 (wrap64 (a0_3 + 1))] (0, 0) _ rfl (blk_drew (blk_put (cs := #[.bool a0_0, .int .i64 o2, .int .i64 6, .int .i64 0]) (blk_put (cs := #[.bool a0_0, .int .i64 o2, .int .i64 0, .int .i64 0]) (blk_put (cs := #[.bool a0_0, .int .i64 0, .int .i64 0, .int .i64 0]) (blk_put (cs := #[.bool false, .int .i64 0, .int .i64 0, .int .i64 0]) hRb2 0 _ rfl) 1 _ rfl) 2 _ rfl) 3 _ rfl)) Try.underlying27 rfl (by kernel_rfl)) rfl ?_
      exact ⟨_, rfl, Kd.R_nil _ _ _ _ _, below_drew1 (((((((HB6.out.setCell (p := ⟨w.heap.size + 1 + 1, 2, none⟩) (by show w.heap.size ≤ w.heap.size + 1 + 1; omega) _).setCell (p := ⟨w.heap.size + 1 + 1, 1, none⟩) (by show w.heap.size ≤ w.heap.size + 1 + 1; omega) _).setCell (p := ⟨w.heap.size + 1 + 1, 3, none⟩) (by show w.heap.size ≤ w.heap.size + 1 + 1; omega) _).setCell (p := ⟨w.heap.size + 1, 0, none⟩) (by show w.heap.size ≤ w.heap.size + 1; omega) _).setCell (p := ⟨w.heap.size + 1, 1, none⟩) (by show w.heap.size ≤ w.heap.size + 1; omega) _).setCell (p := ⟨w.heap.size + 1, 2, none⟩) (by show w.heap.size ≤ w.heap.size + 1; omega) _).setCell (p := ⟨w.heap.size + 1, 3, none⟩) (by show w.heap.size ≤ w.heap.size + 1; omega) _)⟩
    rw [if_neg (fun e => e.elim d3 d6)] at h
    by_cases d5 : q1 = 5
    · subst d5
      rw [if_pos rfl] at h
      have fd0 : W6.frozen? ⟨w.heap.size + 1 + 1, 2, none⟩ = false := blk_frozen hX6 2
      have hXd0 : (W6.setCell ⟨w.heap.size + 1 + 1, 2, none⟩ (.int .i64 5)).heap[w.heap.size + 1 + 1]? = some (.cells #[.bool a0_0, .int .i64 a0_1, .int .i64 5, .int .i64 a0_3] 64 (0, 0)) := blk_put hX6 2 _ rfl
      have hRd0 := blk_far hR6 (p := ⟨w.heap.size + 1 + 1, 2, none⟩) (by show w.heap.size + 1 ≠ w.heap.size + 1 + 1; omega) (.int .i64 5)
      have cd00 : (W6.setCell ⟨w.heap.size + 1 + 1, 2, none⟩ (.int .i64 5)).cell? ⟨w.heap.size + 1 + 1, 0, none⟩ = some (.bool a0_0) := by rw [blk_cell hXd0]; rfl
      have cd01 : (W6.setCell ⟨w.heap.size + 1 + 1, 2, none⟩ (.int .i64 5)).cell? ⟨w.heap.size + 1 + 1, 1, none⟩ = some (.int .i64 a0_1) := by rw [blk_cell hXd0]; rfl
      have cd02 : (W6.setCell ⟨w.heap.size + 1 + 1, 2, none⟩ (.int .i64 5)).cell? ⟨w.heap.size + 1 + 1, 2, none⟩ = some (.int .i64 5) := by rw [blk_cell hXd0]; rfl
      have cd03 : (W6.setCell ⟨w.heap.size + 1 + 1, 2, none⟩ (.int .i64 5)).cell? ⟨w.heap.size + 1 + 1, 3, none⟩ = some (.int .i64 a0_3) := by rw [blk_cell hXd0]; rfl
      have fd1 : (W6.setCell ⟨w.heap.size + 1 + 1, 2, none⟩ (.int .i64 5)).frozen? ⟨w.heap.size + 1 + 1, 3, none⟩ = false := blk_frozen hXd0 3
      have hXd1 : ((W6.setCell ⟨w.heap.size + 1 + 1, 2, none⟩ (.int .i64 5)).setCell ⟨w.heap.size + 1 + 1, 3, none⟩ (.int .i64 (wrap64 (a0_3 + 1)))).heap[w.heap.size + 1 + 1]? = some (.cells #[.bool a0_0, .int .i64 a0_1, .int .i64 5, .int .i64 (wrap64 (a0_3 + 1))] 64 (0, 0)) := blk_put hXd0 3 _ rfl
      have hRd1 := blk_far hRd0 (p := ⟨w.heap.size + 1 + 1, 3, none⟩) (by show w.heap.size + 1 ≠ w.heap.size + 1 + 1; omega) (.int .i64 (wrap64 (a0_3 + 1)))
      have cd10 : ((W6.setCell ⟨w.heap.size + 1 + 1, 2, none⟩ (.int .i64 5)).setCell ⟨w.heap.size + 1 + 1, 3, none⟩ (.int .i64 (wrap64 (a0_3 + 1)))).cell? ⟨w.heap.size + 1 + 1, 0, none⟩ = some (.bool a0_0) := by rw [blk_cell hXd1]; rfl
      have cd11 : ((W6.setCell ⟨w.heap.size + 1 + 1, 2, none⟩ (.int .i64 5)).setCell ⟨w.heap.size + 1 + 1, 3, none⟩ (.int .i64 (wrap64 (a0_3 + 1)))).cell? ⟨w.heap.size + 1 + 1, 1, none⟩ = some (.int .i64 a0_1) := by rw [blk_cell hXd1]; rfl
      have cd12 : ((W6.setCell ⟨w.heap.size + 1 + 1, 2, none⟩ (.int .i64 5)).setCell ⟨w.heap.size + 1 + 1, 3, none⟩ (.int .i64 (wrap64 (a0_3 + 1)))).cell? ⟨w.heap.size + 1 + 1, 2, none⟩ = some (.int .i64 5) := by rw [blk_cell hXd1]; rfl
      have cd13 : ((W6.setCell ⟨w.heap.size + 1 + 1, 2, none⟩ (.int .i64 5)).setCell ⟨w.heap.size + 1 + 1, 3, none⟩ (.int .i64 (wrap64 (a0_3 + 1)))).cell? ⟨w.heap.size + 1 + 1, 3, none⟩ = some (.int .i64 (wrap64 (a0_3 + 1))) := by rw [blk_cell hXd1]; rfl
      have rd0 : ((W6.setCell ⟨w.heap.size + 1 + 1, 2, none⟩ (.int .i64 5)).setCell ⟨w.heap.size + 1 + 1, 3, none⟩ (.int .i64 (wrap64 (a0_3 + 1)))).cell? ⟨w.heap.size + 1, 0, none⟩ = some (.bool false) := by rw [blk_cell hRd1]; rfl
      have gd0 : ((W6.setCell ⟨w.heap.size + 1 + 1, 2, none⟩ (.int .i64 5)).setCell ⟨w.heap.size + 1 + 1, 3, none⟩ (.int .i64 (wrap64 (a0_3 + 1)))).frozen? ⟨w.heap.size + 1, 0, none⟩ = false := blk_frozen hRd1 0
      have rd1 : ((W6.setCell ⟨w.heap.size + 1 + 1, 2, none⟩ (.int .i64 5)).setCell ⟨w.heap.size + 1 + 1, 3, none⟩ (.int .i64 (wrap64 (a0_3 + 1)))).cell? ⟨w.heap.size + 1, 1, none⟩ = some (.int .i64 0) := by rw [blk_cell hRd1]; rfl
      have gd1 : ((W6.setCell ⟨w.heap.size + 1 + 1, 2, none⟩ (.int .i64 5)).setCell ⟨w.heap.size + 1 + 1, 3, none⟩ (.int .i64 (wrap64 (a0_3 + 1)))).frozen? ⟨w.heap.size + 1, 1, none⟩ = false := blk_frozen hRd1 1
      have rd2 : ((W6.setCell ⟨w.heap.size + 1 + 1, 2, none⟩ (.int .i64 5)).setCell ⟨w.heap.size + 1 + 1, 3, none⟩ (.int .i64 (wrap64 (a0_3 + 1)))).cell? ⟨w.heap.size + 1, 2, none⟩ = some (.int .i64 0) := by rw [blk_cell hRd1]; rfl
      have gd2 : ((W6.setCell ⟨w.heap.size + 1 + 1, 2, none⟩ (.int .i64 5)).setCell ⟨w.heap.size + 1 + 1, 3, none⟩ (.int .i64 (wrap64 (a0_3 + 1)))).frozen? ⟨w.heap.size + 1, 2, none⟩ = false := blk_frozen hRd1 2
      have rd3 : ((W6.setCell ⟨w.heap.size + 1 + 1, 2, none⟩ (.int .i64 5)).setCell ⟨w.heap.size + 1 + 1, 3, none⟩ (.int .i64 (wrap64 (a0_3 + 1)))).cell? ⟨w.heap.size + 1, 3, none⟩ = some (.int .i64 0) := by rw [blk_cell hRd1]; rfl
      have gd3 : ((W6.setCell ⟨w.heap.size + 1 + 1, 2, none⟩ (.int .i64 5)).setCell ⟨w.heap.size + 1 + 1, 3, none⟩ (.int .i64 (wrap64 (a0_3 + 1)))).frozen? ⟨w.heap.size + 1, 3, none⟩ = false := blk_frozen hRd1 3
      go_wp2_with fail
      go_region
      go_wp2_with fail
      have h1 := Option.some.inj h
      clear h
      obtain ⟨rfl, h2⟩ := Prod.mk.inj h1
      obtain ⟨rfl, h3⟩ := Prod.mk.inj h2
      obtain ⟨rfl, h4⟩ := Prod.mk.inj h3
      obtain ⟨rfl, h5⟩ := Prod.mk.inj h4
      obtain ⟨rfl, rfl⟩ := Prod.mk.inj h5
      refine bodyPost_ret (results_ctt rfl _ _ (w.heap.size + 1) 27 #[.bool a0_0, .int .i64 a0_1, .int .i64 5, .int .i64 (wrap64 (a0_3 + 1))] (0, 0) _ rfl (blk_drew (blk_put (cs := #[.bool a0_0, .int .i64 a0_1, .int .i64 5, .int .i64 0]) (blk_put (cs := #[.bool a0_0, .int .i64 a0_1, .int .i64 0, .int .i64 0]) (blk_put (cs := #[.bool a0_0, .int .i64 0, .int .i64 0, .int .i64 0]) (blk_put (cs := #[.bool false, .int .i64 0, .int .i64 0, .int .i64 0]) hRd1 0 _ rfl) 1 _ rfl) 2 _ rfl) 3 _ rfl)) Try.underlying27 rfl (by kernel_rfl)) rfl ?_
      exact ⟨_, rfl, Kd.R_nil _ _ _ _ _, below_drew1 ((((((HB6.out.setCell (p := ⟨w.heap.size + 1 + 1, 2, none⟩) (by show w.heap.size ≤ w.heap.size + 1 + 1; omega) _).setCell (p := ⟨w.heap.size + 1 + 1, 3, none⟩) (by show w.heap.size ≤ w.heap.size + 1 + 1; omega) _).setCell (p := ⟨w.heap.size + 1, 0, none⟩) (by show w.heap.size ≤ w.heap.size + 1; omega) _).setCell (p := ⟨w.heap.size + 1, 1, none⟩) (by show w.heap.size ≤ w.heap.size + 1; omega) _).setCell (p := ⟨w.heap.size + 1, 2, none⟩) (by show w.heap.size ≤ w.heap.size + 1; omega) _).setCell (p := ⟨w.heap.size + 1, 3, none⟩) (by show w.heap.size ≤ w.heap.size + 1; omega) _)⟩
    rw [if_neg d5] at h
    have b3 : (q1 == 3) = false := beq_eq_false_iff_ne.mpr d3
    have b6 : (q1 == 6) = false := beq_eq_false_iff_ne.mpr d6
    have b5 : (q1 == 5) = false := beq_eq_false_iff_ne.mpr d5
    have fe0 : W6.frozen? ⟨w.heap.size + 1 + 1, 2, none⟩ = false := blk_frozen hX6 2
    have hXe0 : (W6.setCell ⟨w.heap.size + 1 + 1, 2, none⟩ (.int .i64 q1)).heap[w.heap.size + 1 + 1]? = some (.cells #[.bool a0_0, .int .i64 a0_1, .int .i64 q1, .int .i64 a0_3] 64 (0, 0)) := blk_put hX6 2 _ rfl
    have hRe0 := blk_far hR6 (p := ⟨w.heap.size + 1 + 1, 2, none⟩) (by show w.heap.size + 1 ≠ w.heap.size + 1 + 1; omega) (.int .i64 q1)
    have ce00 : (W6.setCell ⟨w.heap.size + 1 + 1, 2, none⟩ (.int .i64 q1)).cell? ⟨w.heap.size + 1 + 1, 0, none⟩ = some (.bool a0_0) := by rw [blk_cell hXe0]; rfl
    have ce01 : (W6.setCell ⟨w.heap.size + 1 + 1, 2, none⟩ (.int .i64 q1)).cell? ⟨w.heap.size + 1 + 1, 1, none⟩ = some (.int .i64 a0_1) := by rw [blk_cell hXe0]; rfl
    have ce02 : (W6.setCell ⟨w.heap.size + 1 + 1, 2, none⟩ (.int .i64 q1)).cell? ⟨w.heap.size + 1 + 1, 2, none⟩ = some (.int .i64 q1) := by rw [blk_cell hXe0]; rfl
    have ce03 : (W6.setCell ⟨w.heap.size + 1 + 1, 2, none⟩ (.int .i64 q1)).cell? ⟨w.heap.size + 1 + 1, 3, none⟩ = some (.int .i64 a0_3) := by rw [blk_cell hXe0]; rfl
    have fe1 : (W6.setCell ⟨w.heap.size + 1 + 1, 2, none⟩ (.int .i64 q1)).frozen? ⟨w.heap.size + 1 + 1, 0, none⟩ = false := blk_frozen hXe0 0
    have hXe1 : ((W6.setCell ⟨w.heap.size + 1 + 1, 2, none⟩ (.int .i64 q1)).setCell ⟨w.heap.size + 1 + 1, 0, none⟩ (.bool true)).heap[w.heap.size + 1 + 1]? = some (.cells #[.bool true, .int .i64 a0_1, .int .i64 q1, .int .i64 a0_3] 64 (0, 0)) := blk_put hXe0 0 _ rfl
    have hRe1 := blk_far hRe0 (p := ⟨w.heap.size + 1 + 1, 0, none⟩) (by show w.heap.size + 1 ≠ w.heap.size + 1 + 1; omega) (.bool true)
    have ce10 : ((W6.setCell ⟨w.heap.size + 1 + 1, 2, none⟩ (.int .i64 q1)).setCell ⟨w.heap.size + 1 + 1, 0, none⟩ (.bool true)).cell? ⟨w.heap.size + 1 + 1, 0, none⟩ = some (.bool true) := by rw [blk_cell hXe1]; rfl
    have ce11 : ((W6.setCell ⟨w.heap.size + 1 + 1, 2, none⟩ (.int .i64 q1)).setCell ⟨w.heap.size + 1 + 1, 0, none⟩ (.bool true)).cell? ⟨w.heap.size + 1 + 1, 1, none⟩ = some (.int .i64 a0_1) := by rw [blk_cell hXe1]; rfl
    have ce12 : ((W6.setCell ⟨w.heap.size + 1 + 1, 2, none⟩ (.int .i64 q1)).setCell ⟨w.heap.size + 1 + 1, 0, none⟩ (.bool true)).cell? ⟨w.heap.size + 1 + 1, 2, none⟩ = some (.int .i64 q1) := by rw [blk_cell hXe1]; rfl
    have ce13 : ((W6.setCell ⟨w.heap.size + 1 + 1, 2, none⟩ (.int .i64 q1)).setCell ⟨w.heap.size + 1 + 1, 0, none⟩ (.bool true)).cell? ⟨w.heap.size + 1 + 1, 3, none⟩ = some (.int .i64 a0_3) := by rw [blk_cell hXe1]; rfl
    have fe2 : ((W6.setCell ⟨w.heap.size + 1 + 1, 2, none⟩ (.int .i64 q1)).setCell ⟨w.heap.size + 1 + 1, 0, none⟩ (.bool true)).frozen? ⟨w.heap.size + 1 + 1, 1, none⟩ = false := blk_frozen hXe1 1
    have hXe2 : (((W6.setCell ⟨w.heap.size + 1 + 1, 2, none⟩ (.int .i64 q1)).setCell ⟨w.heap.size + 1 + 1, 0, none⟩ (.bool true)).setCell ⟨w.heap.size + 1 + 1, 1, none⟩ (.int .i64 o2)).heap[w.heap.size + 1 + 1]? = some (.cells #[.bool true, .int .i64 o2, .int .i64 q1, .int .i64 a0_3] 64 (0, 0)) := blk_put hXe1 1 _ rfl
    have hRe2 := blk_far hRe1 (p := ⟨w.heap.size + 1 + 1, 1, none⟩) (by show w.heap.size + 1 ≠ w.heap.size + 1 + 1; omega) (.int .i64 o2)
    have ce20 : (((W6.setCell ⟨w.heap.size + 1 + 1, 2, none⟩ (.int .i64 q1)).setCell ⟨w.heap.size + 1 + 1, 0, none⟩ (.bool true)).setCell ⟨w.heap.size + 1 + 1, 1, none⟩ (.int .i64 o2)).cell? ⟨w.heap.size + 1 + 1, 0, none⟩ = some (.bool true) := by rw [blk_cell hXe2]; rfl
    have ce21 : (((W6.setCell ⟨w.heap.size + 1 + 1, 2, none⟩ (.int .i64 q1)).setCell ⟨w.heap.size + 1 + 1, 0, none⟩ (.bool true)).setCell ⟨w.heap.size + 1 + 1, 1, none⟩ (.int .i64 o2)).cell? ⟨w.heap.size + 1 + 1, 1, none⟩ = some (.int .i64 o2) := by rw [blk_cell hXe2]; rfl
    have ce22 : (((W6.setCell ⟨w.heap.size + 1 + 1, 2, none⟩ (.int .i64 q1)).setCell ⟨w.heap.size + 1 + 1, 0, none⟩ (.bool true)).setCell ⟨w.heap.size + 1 + 1, 1, none⟩ (.int .i64 o2)).cell? ⟨w.heap.size + 1 + 1, 2, none⟩ = some (.int .i64 q1) := by rw [blk_cell hXe2]; rfl
    have ce23 : (((W6.setCell ⟨w.heap.size + 1 + 1, 2, none⟩ (.int .i64 q1)).setCell ⟨w.heap.size + 1 + 1, 0, none⟩ (.bool true)).setCell ⟨w.heap.size + 1 + 1, 1, none⟩ (.int .i64 o2)).cell? ⟨w.heap.size + 1 + 1, 3, none⟩ = some (.int .i64 a0_3) := by rw [blk_cell hXe2]; rfl
    have fe3 : (((W6.setCell ⟨w.heap.size + 1 + 1, 2, none⟩ (.int .i64 q1)).setCell ⟨w.heap.size + 1 + 1, 0, none⟩ (.bool true)).setCell ⟨w.heap.size + 1 + 1, 1, none⟩ (.int .i64 o2)).frozen? ⟨w.heap.size + 1 + 1, 3, none⟩ = false := blk_frozen hXe2 3
    have hXe3 : ((((W6.setCell ⟨w.heap.size + 1 + 1, 2, none⟩ (.int .i64 q1)).setCell ⟨w.heap.size + 1 + 1, 0, none⟩ (.bool true)).setCell ⟨w.heap.size + 1 + 1, 1, none⟩ (.int .i64 o2)).setCell ⟨w.heap.size + 1 + 1, 3, none⟩ (.int .i64 0)).heap[w.heap.size + 1 + 1]? = some (.cells #[.bool true, .int .i64 o2, .int .i64 q1, .int .i64 0] 64 (0, 0)) := blk_put hXe2 3 _ rfl
    have hRe3 := blk_far hRe2 (p := ⟨w.heap.size + 1 + 1, 3, none⟩) (by show w.heap.size + 1 ≠ w.heap.size + 1 + 1; omega) (.int .i64 0)
    have ce30 : ((((W6.setCell ⟨w.heap.size + 1 + 1, 2, none⟩ (.int .i64 q1)).setCell ⟨w.heap.size + 1 + 1, 0, none⟩ (.bool true)).setCell ⟨w.heap.size + 1 + 1, 1, none⟩ (.int .i64 o2)).setCell ⟨w.heap.size + 1 + 1, 3, none⟩ (.int .i64 0)).cell? ⟨w.heap.size + 1 + 1, 0, none⟩ = some (.bool true) := by rw [blk_cell hXe3]; rfl
    have ce31 : ((((W6.setCell ⟨w.heap.size + 1 + 1, 2, none⟩ (.int .i64 q1)).setCell ⟨w.heap.size + 1 + 1, 0, none⟩ (.bool true)).setCell ⟨w.heap.size + 1 + 1, 1, none⟩ (.int .i64 o2)).setCell ⟨w.heap.size + 1 + 1, 3, none⟩ (.int .i64 0)).cell? ⟨w.heap.size + 1 + 1, 1, none⟩ = some (.int .i64 o2) := by rw [blk_cell hXe3]; rfl
    have ce32 : ((((W6.setCell ⟨w.heap.size + 1 + 1, 2, none⟩ (.int .i64 q1)).setCell ⟨w.heap.size + 1 + 1, 0, none⟩ (.bool true)).setCell ⟨w.heap.size + 1 + 1, 1, none⟩ (.int .i64 o2)).setCell ⟨w.heap.size + 1 + 1, 3, none⟩ (.int .i64 0)).cell? ⟨w.heap.size + 1 + 1, 2, none⟩ = some (.int .i64 q1) := by rw [blk_cell hXe3]; rfl
    have ce33 : ((((W6.setCell ⟨w.heap.size + 1 + 1, 2, none⟩ (.int .i64 q1)).setCell ⟨w.heap.size + 1 + 1, 0, none⟩ (.bool true)).setCell ⟨w.heap.size + 1 + 1, 1, none⟩ (.int .i64 o2)).setCell ⟨w.heap.size + 1 + 1, 3, none⟩ (.int .i64 0)).cell? ⟨w.heap.size + 1 + 1, 3, none⟩ = some (.int .i64 0) := by rw [blk_cell hXe3]; rfl
    have re0 : ((((W6.setCell ⟨w.heap.size + 1 + 1, 2, none⟩ (.int .i64 q1)).setCell ⟨w.heap.size + 1 + 1, 0, none⟩ (.bool true)).setCell ⟨w.heap.size + 1 + 1, 1, none⟩ (.int .i64 o2)).setCell ⟨w.heap.size + 1 + 1, 3, none⟩ (.int .i64 0)).cell? ⟨w.heap.size + 1, 0, none⟩ = some (.bool false) := by rw [blk_cell hRe3]; rfl
    have ge0 : ((((W6.setCell ⟨w.heap.size + 1 + 1, 2, none⟩ (.int .i64 q1)).setCell ⟨w.heap.size + 1 + 1, 0, none⟩ (.bool true)).setCell ⟨w.heap.size + 1 + 1, 1, none⟩ (.int .i64 o2)).setCell ⟨w.heap.size + 1 + 1, 3, none⟩ (.int .i64 0)).frozen? ⟨w.heap.size + 1, 0, none⟩ = false := blk_frozen hRe3 0
    have re1 : ((((W6.setCell ⟨w.heap.size + 1 + 1, 2, none⟩ (.int .i64 q1)).setCell ⟨w.heap.size + 1 + 1, 0, none⟩ (.bool true)).setCell ⟨w.heap.size + 1 + 1, 1, none⟩ (.int .i64 o2)).setCell ⟨w.heap.size + 1 + 1, 3, none⟩ (.int .i64 0)).cell? ⟨w.heap.size + 1, 1, none⟩ = some (.int .i64 0) := by rw [blk_cell hRe3]; rfl
    have ge1 : ((((W6.setCell ⟨w.heap.size + 1 + 1, 2, none⟩ (.int .i64 q1)).setCell ⟨w.heap.size + 1 + 1, 0, none⟩ (.bool true)).setCell ⟨w.heap.size + 1 + 1, 1, none⟩ (.int .i64 o2)).setCell ⟨w.heap.size + 1 + 1, 3, none⟩ (.int .i64 0)).frozen? ⟨w.heap.size + 1, 1, none⟩ = false := blk_frozen hRe3 1
    have re2 : ((((W6.setCell ⟨w.heap.size + 1 + 1, 2, none⟩ (.int .i64 q1)).setCell ⟨w.heap.size + 1 + 1, 0, none⟩ (.bool true)).setCell ⟨w.heap.size + 1 + 1, 1, none⟩ (.int .i64 o2)).setCell ⟨w.heap.size + 1 + 1, 3, none⟩ (.int .i64 0)).cell? ⟨w.heap.size + 1, 2, none⟩ = some (.int .i64 0) := by rw [blk_cell hRe3]; rfl
    have ge2 : ((((W6.setCell ⟨w.heap.size + 1 + 1, 2, none⟩ (.int .i64 q1)).setCell ⟨w.heap.size + 1 + 1, 0, none⟩ (.bool true)).setCell ⟨w.heap.size + 1 + 1, 1, none⟩ (.int .i64 o2)).setCell ⟨w.heap.size + 1 + 1, 3, none⟩ (.int .i64 0)).frozen? ⟨w.heap.size + 1, 2, none⟩ = false := blk_frozen hRe3 2
    have re3 : ((((W6.setCell ⟨w.heap.size + 1 + 1, 2, none⟩ (.int .i64 q1)).setCell ⟨w.heap.size + 1 + 1, 0, none⟩ (.bool true)).setCell ⟨w.heap.size + 1 + 1, 1, none⟩ (.int .i64 o2)).setCell ⟨w.heap.size + 1 + 1, 3, none⟩ (.int .i64 0)).cell? ⟨w.heap.size + 1, 3, none⟩ = some (.int .i64 0) := by rw [blk_cell hRe3]; rfl
    have ge3 : ((((W6.setCell ⟨w.heap.size + 1 + 1, 2, none⟩ (.int .i64 q1)).setCell ⟨w.heap.size + 1 + 1, 0, none⟩ (.bool true)).setCell ⟨w.heap.size + 1 + 1, 1, none⟩ (.int .i64 o2)).setCell ⟨w.heap.size + 1 + 1, 3, none⟩ (.int .i64 0)).frozen? ⟨w.heap.size + 1, 3, none⟩ = false := blk_frozen hRe3 3
    go_wp2_with fail
    go_region
    go_wp2_with fail
    have h1 := Option.some.inj h
    clear h
    obtain ⟨rfl, h2⟩ := Prod.mk.inj h1
    obtain ⟨rfl, h3⟩ := Prod.mk.inj h2
    obtain ⟨rfl, h4⟩ := Prod.mk.inj h3
    obtain ⟨rfl, h5⟩ := Prod.mk.inj h4
    obtain ⟨rfl, rfl⟩ := Prod.mk.inj h5
    refine bodyPost_ret (results_ctt rfl _ _ (w.heap.size + 1) 27 #[.bool true, .int .i64 o2, .int .i64 q1, .int .i64 0] (0, 0) _ rfl (blk_drew (blk_put (cs := #[.bool true, .int .i64 o2, .int .i64 q1, .int .i64 0]) (blk_put (cs := #[.bool true, .int .i64 o2, .int .i64 0, .int .i64 0]) (blk_put (cs := #[.bool true, .int .i64 0, .int .i64 0, .int .i64 0]) (blk_put (cs := #[.bool false, .int .i64 0, .int .i64 0, .int .i64 0]) hRe3 0 _ rfl) 1 _ rfl) 2 _ rfl) 3 _ rfl)) Try.underlying27 rfl (by kernel_rfl)) rfl ?_
    refine ⟨_, rfl, ?_, below_drew1 ((((((((HB6.out.setCell (p := ⟨w.heap.size + 1 + 1, 2, none⟩) (by show w.heap.size ≤ w.heap.size + 1 + 1; omega) _).setCell (p := ⟨w.heap.size + 1 + 1, 0, none⟩) (by show w.heap.size ≤ w.heap.size + 1 + 1; omega) _).setCell (p := ⟨w.heap.size + 1 + 1, 1, none⟩) (by show w.heap.size ≤ w.heap.size + 1 + 1; omega) _).setCell (p := ⟨w.heap.size + 1 + 1, 3, none⟩) (by show w.heap.size ≤ w.heap.size + 1 + 1; omega) _).setCell (p := ⟨w.heap.size + 1, 0, none⟩) (by show w.heap.size ≤ w.heap.size + 1; omega) _).setCell (p := ⟨w.heap.size + 1, 1, none⟩) (by show w.heap.size ≤ w.heap.size + 1; omega) _).setCell (p := ⟨w.heap.size + 1, 2, none⟩) (by show w.heap.size ≤ w.heap.size + 1; omega) _).setCell (p := ⟨w.heap.size + 1, 3, none⟩) (by show w.heap.size ≤ w.heap.size + 1; omega) _)⟩
    exact Kd.R_mono (Kd.R_drew (Kd.R_lower (Kd.R_kept (S := fun k => k = w.heap.size + 1 ∨ k = w.heap.size + 1 + 1) (Kd.R_bound HO6.out) (((((((((Kept.refl W6 (fun k => k = w.heap.size + 1 ∨ k = w.heap.size + 1 + 1)).setCell (p := ⟨w.heap.size + 1 + 1, 2, none⟩) (.inl (.inr rfl)) _).setCell (p := ⟨w.heap.size + 1 + 1, 0, none⟩) (.inl (.inr rfl)) _).setCell (p := ⟨w.heap.size + 1 + 1, 1, none⟩) (.inl (.inr rfl)) _).setCell (p := ⟨w.heap.size + 1 + 1, 3, none⟩) (.inl (.inr rfl)) _).setCell (p := ⟨w.heap.size + 1, 0, none⟩) (.inl (.inl rfl)) _).setCell (p := ⟨w.heap.size + 1, 1, none⟩) (.inl (.inl rfl)) _).setCell (p := ⟨w.heap.size + 1, 2, none⟩) (.inl (.inl rfl)) _).setCell (p := ⟨w.heap.size + 1, 3, none⟩) (.inl (.inl rfl)) _) (fun k hk e => by have := hk.2.1; have := H3.out; omega)) (by have := H3.out; omega))) (fun _ _ => trivial)

/-! ### phaetonref01_SameBytes: function 8 -/
def phaetonref01_SameBytes.f (l0 : List Int) (l1 : List Int) : Option (Bool) := some ((strOfNums l0).toList == (strOfNums l1).toList)
set_option maxHeartbeats 8000000 in
set_option maxRecDepth 100000 in
theorem phaetonref01_SameBytes.calls (A0 : Option Addr) (c0 : Nat) (l0 : List Int) (A1 : Option Addr) (c1 : Nat) (l1 : List Int) (r : Bool) (w : World) (hr0 : Kd.C (Kd.int .u8) w A0 l0.length l0) (hc0 : l0.length ≤ c0) (hr1 : Kd.C (Kd.int .u8) w A1 l1.length l1) (hc1 : l1.length ≤ c1) (h : phaetonref01_SameBytes.f l0 l1 = some r) :
    Calls Try.prog 8 #[.slice A0 l0.length c0, .slice A1 l1.length c1] w fun e w' => e = .returned (.bool r) ∧ Drawn0 w w' := by
  have HR0 := Aside0.mk hr0
  have HC0 := Aside0.mk hc0
  clear hr0 hc0
  have HR1 := Aside0.mk hr1
  have HC1 := Aside0.mk hc1
  clear hr1 hc1
  have H : (some ((strOfNums l0).toList == (strOfNums l1).toList)) = some r := h
  clear h
  obtain rfl := Option.some.inj H
  have hcv3 := Kd.C_string (P := Try.prog) (A := A0) (c := c0) Try.underlying29 Try.underlying5 Try.underlying9 HR0.out
  have hcv4 := Kd.C_string (P := Try.prog) (A := A1) (c := c1) Try.underlying29 Try.underlying5 Try.underlying9 HR1.out
  go_enter Try.func8, Try.ntmps8
  go_wp2
  go_ret
  exact ⟨by first | rfl | (simp; done) | (simp [*]; done), by repeat (first | exact Drawn0.refl _ | apply Drawn0.step)⟩

end Go.Proofs.Ytfbmgflkfpppmaa.Px

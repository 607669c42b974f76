-- Written by myprint.py, a program of this session's, over the kit's print.py; not a text of print.sh's own.
import Derived.Test.YtfjffajmagefkaaHandBox
import Derived.Test.YtfjffajmagefkaaPx0
import Derived.Test.YtfjffajmagefkaaPx1
import Derived.Test.YtfjffajmagefkaaPx2
import Derived.Test.YtfjffajmagefkaaPx3
namespace Go.Proofs.Ytfjffajmagefkaa.Px
open Go.RowKit Go.Proofs.YtfjffajmagefkaaW.PrintWords Go.Proofs.YtfjffajmagefkaaW.PrintLast Go.Proofs.YtfjffajmagefkaaW.PrintMore
attribute [local go_sem] max2_int min2_int max_two min_two max_three min_three max_four min_four   -- for this text's walks alone
set_option linter.unusedVariables false
set_option linter.unusedSimpArgs false

attribute [local go_sem high] eqA24
/-! ### phaetonref01_SameBytes: function 15 -/
def phaetonref01_SameBytes.f (l0 : List Int) (l1 : List Int) : Option (Bool) := some ((strOfNums l0).toList == (strOfNums l1).toList)
set_option maxHeartbeats 8000000 in
set_option maxRecDepth 100000 in
theorem phaetonref01_SameBytes.calls (A0 : Option Addr) (c0 : Nat) (l0 : List Int) (A1 : Option Addr) (c1 : Nat) (l1 : List Int) (r : Bool) (w : World) (hr0 : Kd.C (Kd.int .u8) w A0 l0.length l0) (hc0 : l0.length ≤ c0) (hr1 : Kd.C (Kd.int .u8) w A1 l1.length l1) (hc1 : l1.length ≤ c1) (h : phaetonref01_SameBytes.f l0 l1 = some r) :
    Calls Try.prog 15 #[.slice A0 l0.length c0, .slice A1 l1.length c1] w fun e w' => e = .returned (.bool r) ∧ Drawn0 w w' := by
  have HR0 := Aside0.mk hr0
  have HC0 := Aside0.mk hc0
  clear hr0 hc0
  have HR1 := Aside0.mk hr1
  have HC1 := Aside0.mk hc1
  clear hr1 hc1
  have H : (some ((strOfNums l0).toList == (strOfNums l1).toList)) = some r := h
  clear h
  obtain rfl := Option.some.inj H
  have hcv3 := Kd.C_string (P := Try.prog) (A := A0) (c := c0) Try.underlying22 Try.underlying5 Try.underlying9 HR0.out
  have hcv4 := Kd.C_string (P := Try.prog) (A := A1) (c := c1) Try.underlying22 Try.underlying5 Try.underlying9 HR1.out
  go_enter Try.func15, Try.ntmps15
  go_wp2
  go_ret
  exact ⟨by first | rfl | (simp; done) | (simp [*]; done), by repeat (first | exact Drawn0.refl _ | apply Drawn0.step)⟩

/-! ### trust_New: function 16 -/
def trust_New.f  : Option (Bool × Int × Int × Int) := some (false, 0, 0, 0)
set_option maxHeartbeats 8000000 in
set_option maxRecDepth 100000 in
theorem trust_New.calls  (r1 : Bool) (r2 : Int) (r3 : Int) (r4 : Int) (w : World) (h : trust_New.f  = some (r1, r2, r3, r4)) :
    Calls Try.prog 16 #[] w fun e w' => e = .returned (.agg #[.bool r1, .int .i64 r2, .int .i64 r3, .int .i64 r4]) ∧ Below w.heap.size w w' := by
  have hu24 := Try.underlying24
  have HB := Aside0.mk (Below.refl w.heap.size w)
  have H : (some (false, 0, 0, 0)) = some (r1, r2, r3, r4) := h
  clear h
  simp only [Option.some.injEq, Prod.mk.injEq] at H
  obtain ⟨rfl, rfl, rfl, rfl⟩ := H
  go_enter Try.func16, Try.ntmps16
  go_wp2_with (first | ((with_reducible refine gate_store (t := 24) (p := 0) rfl ?_); refine HW.store_box2 rfl rfl 24 _ _ rfl rfl rfl BK125.out rfl (by kernel_rfl) (by intro q hq; simp only [List.mem_cons, List.not_mem_nil, or_false] at hq; rcases hq with rfl | rfl | rfl | rfl <;> rfl) ?_; intro w1_ hw1_ hk1_; simp only [List.toList_toArray, World.setCells, Nat.zero_add, Nat.reduceAdd] at hw1_; subst hw1_; have hcb125_0 := (blk_cell hk1_ 0).trans rfl; have hfb125_0 := blk_frozen hk1_ 0; have hcb125_1 := (blk_cell hk1_ 1).trans rfl; have hfb125_1 := blk_frozen hk1_ 1; have hcb125_2 := (blk_cell hk1_ 2).trans rfl; have hfb125_2 := blk_frozen hk1_ 2; have hcb125_3 := (blk_cell hk1_ 3).trans rfl; have hfb125_3 := blk_frozen hk1_ 3; clear hk1_) | ((with_reducible refine gate_dst (N := 0) rfl ?_); refine box_event ?hg (N := 0) ?hd (cs := #[.bool false, .int .i64 0, .int .i64 0, .int .i64 0]) (t := 24) ?hr ?_; (case hd => rfl); (case hg => rfl); (case hr => first | (go_simp; done) | (go_simp; rfl)); intro gb125 hg w1 hbox hb; have n0_ := Aside0.mk (below_step (by repeat (first | (with_reducible first | exact HB.out | apply below_alloc | apply pw_below_drewN | apply below_drew1) | exact HB.out)) hb); have n1_ := Aside0.mk (hbox); have n2_ := Aside0.mk ((by rw [hg]; exact (below_size (by repeat (first | (with_reducible first | exact HB.out | apply below_alloc | apply pw_below_drewN | apply below_drew1) | exact HB.out))) : w.heap.size ≤ gb125)); have n3_ := Aside0.mk ((by rw [hg]; exact (below_size (by repeat (first | (with_reducible first | exact HB.out | apply below_alloc | apply pw_below_drewN | apply below_drew1) | exact HB.out))) : w.heap.size ≤ gb125)); clear HB; have HB := n0_; have BK125 := n1_; have GW125 := n2_; have GE125 := n3_; clear n0_ n1_ n2_ n3_; clear hb hbox hg; have hcz2_0 : w1.cell? ⟨gb125, 0, none⟩ = some (.bool false) := (blk_cell BK125.out 0).trans rfl; have hcz2_1 : w1.cell? ⟨gb125, 1, none⟩ = some (.int .i64 0) := (blk_cell BK125.out 1).trans rfl; have hcz2_2 : w1.cell? ⟨gb125, 2, none⟩ = some (.int .i64 0) := (blk_cell BK125.out 2).trans rfl; have hcz2_3 : w1.cell? ⟨gb125, 3, none⟩ = some (.int .i64 0) := (blk_cell BK125.out 3).trans rfl; have hfz2_0 := blk_frozen BK125.out 0; have hfz2_1 := blk_frozen BK125.out 1; have hfz2_2 := blk_frozen BK125.out 2; have hfz2_3 := blk_frozen BK125.out 3))
  refine bodyPost_ret (results_cell_row rfl _ _ gb125 24 #[.bool false, .int .i64 0, .int .i64 0, .int .i64 0] (0, 0) _ rfl (by (with_reducible repeat (first | refine blk_drewN ?_ _ | refine blk_drew ?_ | refine blk_alloc ?_ _)); refine blk_put (cs := #[.bool false, .int .i64 0, .int .i64 0, .int .i64 0]) ?_ 3 _ rfl; (with_reducible repeat (first | refine blk_drewN ?_ _ | refine blk_drew ?_ | refine blk_alloc ?_ _)); refine blk_put (cs := #[.bool false, .int .i64 0, .int .i64 0, .int .i64 0]) ?_ 2 _ rfl; (with_reducible repeat (first | refine blk_drewN ?_ _ | refine blk_drew ?_ | refine blk_alloc ?_ _)); refine blk_put (cs := #[.bool false, .int .i64 0, .int .i64 0, .int .i64 0]) ?_ 1 _ rfl; (with_reducible repeat (first | refine blk_drewN ?_ _ | refine blk_drew ?_ | refine blk_alloc ?_ _)); refine blk_put (cs := #[.bool false, .int .i64 0, .int .i64 0, .int .i64 0]) ?_ 0 _ rfl; (with_reducible repeat (first | refine blk_drewN ?_ _ | refine blk_drew ?_ | refine blk_alloc ?_ _)); exact BK125.out) Try.underlying24 rfl (by kernel_rfl)) rfl ?_
  exact ⟨by first | rfl | (simp [errW_none, errW_some] <;> rfl) | (simp [*, errW_none, errW_some] <;> rfl), by repeat (first | (with_reducible first | exact HB.out | apply below_alloc | apply pw_below_drewN | apply below_drew1 | refine below_set ?_ GE125.out) | exact HB.out)⟩

/-- A state of type 50 at block g of W; what its slices lead to came in by w0. -/
def IsS50 (w0 W : World) (g : Nat) (f0 : Bool) (f1 : Int) (f2 : Int) (f3 : Int) : Prop := W.heap[g]? = some (.cells #[.bool f0, .int .i64 f1, .int .i64 f2, .int .i64 f3] 50 (0, 0)) ∧ w0.heap.size ≤ g
theorem IsS50.grown {w0 W : World} {g : Nat} {f0 : Bool} {f1 : Int} {f2 : Int} {f3 : Int} {W1 : World} {row : Option Nat} (h : IsS50 w0 W g f0 f1 f2 f3) (hw : W.grownBy W1 row) (hne : some g ≠ row) : IsS50 w0 W1 g f0 f1 f2 f3 := by
  obtain ⟨hb, hg⟩ := h
  exact ⟨blk_grown hb hw hne, hg⟩
theorem IsS50.own_neN {w0 W : World} {g : Nat} {f0 : Bool} {f1 : Int} {f2 : Int} {f3 : Int} {α : Type} {d : Kd α} {e : Nat} {base : Nat} {ok : Nat → Prop} {v : Value} {xs : List α} (h : IsS50 w0 W g f0 f1 f2 f3) (ho : Kd.N d e W base ok v xs) (ht : e ≠ 50) : some g ≠ v.ownBlock := by
  obtain ⟨hb, hg⟩ := h
  exact Kd.N_ne ho hb ht
theorem IsS50.fresh {w0 W : World} {g : Nat} {f0 : Bool} {f1 : Int} {f2 : Int} {f3 : Int} (h : IsS50 w0 W g f0 f1 f2 f3) : ∀ k, W.heap.size ≤ k → k ≠ g := by
  obtain ⟨hb, hg⟩ := h
  exact Kd.freshB hb
theorem IsS50.kept {w0 W : World} {g : Nat} {f0 : Bool} {f1 : Int} {f2 : Int} {f3 : Int} {W1 : World} {S : Nat → Prop} (h : IsS50 w0 W g f0 f1 f2 f3) (hk : Kept W W1 S) (hne : ¬ S g) : IsS50 w0 W1 g f0 f1 f2 f3 := by
  obtain ⟨hb, hg⟩ := h
  exact ⟨blk_kept hb hk hne, hg⟩
theorem IsS50.below {w0 W : World} {g : Nat} {f0 : Bool} {f1 : Int} {f2 : Int} {f3 : Int} {W1 : World} (h : IsS50 w0 W g f0 f1 f2 f3) (hw : Below W.heap.size W W1) : IsS50 w0 W1 g f0 f1 f2 f3 := h.grown (grown_of_below hw none) (by simp)
theorem IsS50.alloc {w0 W : World} {g : Nat} {f0 : Bool} {f1 : Int} {f2 : Int} {f3 : Int} (h : IsS50 w0 W g f0 f1 f2 f3) (o : Obj) : IsS50 w0 (W.alloc o) g f0 f1 f2 f3 := h.below (below_alloc (Below.refl _ _) o)
theorem IsS50.drewN {w0 W : World} {g : Nat} {f0 : Bool} {f1 : Int} {f2 : Int} {f3 : Int} (h : IsS50 w0 W g f0 f1 f2 f3) (m : Nat) : IsS50 w0 (W.drewN m) g f0 f1 f2 f3 := h
theorem IsS50.drew {w0 W : World} {g : Nat} {f0 : Bool} {f1 : Int} {f2 : Int} {f3 : Int} (h : IsS50 w0 W g f0 f1 f2 f3) : IsS50 w0 W.drew g f0 f1 f2 f3 := h
theorem IsS50.at_ {w0 W : World} {g : Nat} {f0 : Bool} {f1 : Int} {f2 : Int} {f3 : Int} {w' : World} {m : Nat} (hq : W.drewN m = w') (h : IsS50 w0 W g f0 f1 f2 f3) : IsS50 w0 w' g f0 f1 f2 f3 := by subst hq; exact IsS50.drewN h m
theorem IsS50.apart {w0 W : World} {g : Nat} {f0 : Bool} {f1 : Int} {f2 : Int} {f3 : Int} {α : Type} {d : Kd α} {e : Nat} {base : Nat} {ok : Nat → Prop} {v : Value} {xs : List α} (h : IsS50 w0 W g f0 f1 f2 f3) (ho : d.R e W base ok v xs) (ht : ∀ q, q ∈ e :: d.E → q ≠ 50) : d.R e W base (fun k => ok k ∧ k ≠ g) v xs := by
  obtain ⟨hb, hg⟩ := h
  exact Kd.R_types ho hb ht
theorem IsS50.own_ne {w0 W : World} {g : Nat} {f0 : Bool} {f1 : Int} {f2 : Int} {f3 : Int} {α : Type} {d : Kd α} {e : Nat} {base : Nat} {ok : Nat → Prop} {v : Value} {xs : List α} (h : IsS50 w0 W g f0 f1 f2 f3) (ho : d.R e W base ok v xs) (ht : e ≠ 50) : some g ≠ v.ownBlock := by
  obtain ⟨hb, hg⟩ := h
  exact Kd.R_ne ho hb ht
theorem IsS50.apartQ {w0 W : World} {g : Nat} {f0 : Bool} {f1 : Int} {f2 : Int} {f3 : Int} {α : Type} {d : Kd α} {e : Nat} {base : Nat} {ok : Nat → Prop} {v : Value} {xs : List α} (h : IsS50 w0 W g f0 f1 f2 f3) (ho : d.Q e W base ok v xs) (ht : ∀ q, q ∈ e :: d.E → q ≠ 50) : d.Q e W base (fun k => ok k ∧ k ≠ g) v xs := by
  obtain ⟨hb, hg⟩ := h
  exact Kd.Q_types ho hb ht
theorem IsS50.own_neQ {w0 W : World} {g : Nat} {f0 : Bool} {f1 : Int} {f2 : Int} {f3 : Int} {α : Type} {d : Kd α} {e : Nat} {base : Nat} {ok : Nat → Prop} {v : Value} {xs : List α} (h : IsS50 w0 W g f0 f1 f2 f3) (ho : d.Q e W base ok v xs) (ht : e ≠ 50) : some g ≠ v.ownBlock := by
  obtain ⟨hb, hg⟩ := h
  exact Kd.Q_ne ho hb ht
theorem IsS50.apartS {w0 W : World} {g : Nat} {f0 : Bool} {f1 : Int} {f2 : Int} {f3 : Int} {α : Type} {d : Kd α} {e : Nat} {base : Nat} {ok : Nat → Prop} {v : Value} {xs : List α} (h : IsS50 w0 W g f0 f1 f2 f3) (ho : d.S e W base ok v xs) (ht : ∀ q, q ∈ e :: d.E → q ≠ 50) : d.S e W base (fun k => ok k ∧ k ≠ g) v xs := by
  obtain ⟨hb, hg⟩ := h
  exact Kd.S_types ho hb ht
theorem IsS50.own_neS {w0 W : World} {g : Nat} {f0 : Bool} {f1 : Int} {f2 : Int} {f3 : Int} {α : Type} {d : Kd α} {e : Nat} {base : Nat} {ok : Nat → Prop} {v : Value} {xs : List α} (h : IsS50 w0 W g f0 f1 f2 f3) (ho : d.S e W base ok v xs) (ht : e ≠ 50) : some g ≠ v.ownBlock := by
  obtain ⟨hb, hg⟩ := h
  exact Kd.S_ne ho hb ht
theorem IsS50.lt {w0 W : World} {g : Nat} {f0 : Bool} {f1 : Int} {f2 : Int} {f3 : Int} (h : IsS50 w0 W g f0 f1 f2 f3) : g < W.heap.size := by
  obtain ⟨hb, hg⟩ := h
  exact blk_lt hb
theorem IsS50.ge {w0 W : World} {g : Nat} {f0 : Bool} {f1 : Int} {f2 : Int} {f3 : Int} (h : IsS50 w0 W g f0 f1 f2 f3) : w0.heap.size ≤ g := by
  obtain ⟨hb, hg⟩ := h
  exact hg
theorem IsS50.ne_blk {w0 W : World} {g : Nat} {f0 : Bool} {f1 : Int} {f2 : Int} {f3 : Int} {a : Nat} {cs : Array Value} {t : TypeId} {fr : Nat × Nat} (h : IsS50 w0 W g f0 f1 f2 f3) (hb2 : W.heap[a]? = some (.cells cs t fr)) (ht : t ≠ 50) : g ≠ a := by
  obtain ⟨hb, hg⟩ := h
  rintro rfl
  rw [hb] at hb2
  injection hb2 with hb2
  injection hb2 with _ ht2
  exact ht ht2.symm
theorem IsS50.far {w0 W : World} {g : Nat} {f0 : Bool} {f1 : Int} {f2 : Int} {f3 : Int} {p : Addr} (h : IsS50 w0 W g f0 f1 f2 f3) (hne : g ≠ p.block) (u : Value) : IsS50 w0 (W.setCell p u) g f0 f1 f2 f3 := by
  obtain ⟨hb, hg⟩ := h
  exact ⟨blk_far hb hne u, hg⟩
theorem cellS50_0 {W : World} {g : Nat} {f0 : Bool} {f1 : Int} {f2 : Int} {f3 : Int} (h : W.heap[g]? = some (.cells #[.bool f0, .int .i64 f1, .int .i64 f2, .int .i64 f3] 50 (0, 0))) : W.cell? ⟨g, 0, none⟩ = some (.bool f0) := (blk_cell h 0).trans rfl
theorem IsS50.set_0 {w0 W : World} {g : Nat} {f0 : Bool} {f1 : Int} {f2 : Int} {f3 : Int} (h : IsS50 w0 W g f0 f1 f2 f3) (x : Bool) : IsS50 w0 (W.setCell ⟨g, 0, none⟩ (.bool x)) g x f1 f2 f3 := by
  obtain ⟨hb, hg⟩ := h
  exact ⟨by simpa using blk_set hb 0 (.bool x), hg⟩
theorem cellS50_1 {W : World} {g : Nat} {f0 : Bool} {f1 : Int} {f2 : Int} {f3 : Int} (h : W.heap[g]? = some (.cells #[.bool f0, .int .i64 f1, .int .i64 f2, .int .i64 f3] 50 (0, 0))) : W.cell? ⟨g, 1, none⟩ = some (.int .i64 f1) := (blk_cell h 1).trans rfl
theorem IsS50.set_1 {w0 W : World} {g : Nat} {f0 : Bool} {f1 : Int} {f2 : Int} {f3 : Int} (h : IsS50 w0 W g f0 f1 f2 f3) (x : Int) : IsS50 w0 (W.setCell ⟨g, 1, none⟩ (.int .i64 x)) g f0 x f2 f3 := by
  obtain ⟨hb, hg⟩ := h
  exact ⟨by simpa using blk_set hb 1 (.int .i64 x), hg⟩
theorem cellS50_2 {W : World} {g : Nat} {f0 : Bool} {f1 : Int} {f2 : Int} {f3 : Int} (h : W.heap[g]? = some (.cells #[.bool f0, .int .i64 f1, .int .i64 f2, .int .i64 f3] 50 (0, 0))) : W.cell? ⟨g, 2, none⟩ = some (.int .i64 f2) := (blk_cell h 2).trans rfl
theorem IsS50.set_2 {w0 W : World} {g : Nat} {f0 : Bool} {f1 : Int} {f2 : Int} {f3 : Int} (h : IsS50 w0 W g f0 f1 f2 f3) (x : Int) : IsS50 w0 (W.setCell ⟨g, 2, none⟩ (.int .i64 x)) g f0 f1 x f3 := by
  obtain ⟨hb, hg⟩ := h
  exact ⟨by simpa using blk_set hb 2 (.int .i64 x), hg⟩
theorem cellS50_3 {W : World} {g : Nat} {f0 : Bool} {f1 : Int} {f2 : Int} {f3 : Int} (h : W.heap[g]? = some (.cells #[.bool f0, .int .i64 f1, .int .i64 f2, .int .i64 f3] 50 (0, 0))) : W.cell? ⟨g, 3, none⟩ = some (.int .i64 f3) := (blk_cell h 3).trans rfl
theorem IsS50.set_3 {w0 W : World} {g : Nat} {f0 : Bool} {f1 : Int} {f2 : Int} {f3 : Int} (h : IsS50 w0 W g f0 f1 f2 f3) (x : Int) : IsS50 w0 (W.setCell ⟨g, 3, none⟩ (.int .i64 x)) g f0 f1 f2 x := by
  obtain ⟨hb, hg⟩ := h
  exact ⟨by simpa using blk_set hb 3 (.int .i64 x), hg⟩
theorem IsS50.new (w0 W : World) (f0 : Bool) (f1 : Int) (f2 : Int) (f3 : Int) (hB : Below w0.heap.size w0 W) : IsS50 w0 (W.alloc (.cells #[.bool f0, .int .i64 f1, .int .i64 f2, .int .i64 f3] 50)) W.heap.size f0 f1 f2 f3 := ⟨by simpa using heap_alloc_new W _, hB.size⟩

/-! ### trust_trust_kind: function 24 -/
def trust_trust_kind.f (s0_0 : Bool) (s0_1 : Int) (s0_2 : Int) (s0_3 : Int) (a1 : Int) (a2 : Int) : Option (Int × Bool × Int × Int × Int) := if s0_0 = true then (if (Int.tmod (wrap64 ((wrap64 (a1 - s0_1)) + 15)) 15) = 0 then (some (3, s0_0, s0_1, s0_2, s0_3)) else (if (Int.tmod (wrap64 ((wrap64 (a1 - s0_1)) + 15)) 15) = 1 then (some (1, s0_0, s0_1, s0_2, s0_3)) else (if (Int.tmod (wrap64 ((wrap64 (a1 - s0_1)) + 15)) 15) ≤ a2 then (some (4, s0_0, s0_1, s0_2, s0_3)) else (some (6, s0_0, s0_1, s0_2, s0_3))))) else (some (2, s0_0, s0_1, s0_2, s0_3))
set_option maxHeartbeats 8000000 in
set_option maxRecDepth 100000 in
theorem trust_trust_kind.calls (g : Nat) (s0_0 : Bool) (s0_1 : Int) (s0_2 : Int) (s0_3 : Int) (a1 : Int) (a2 : Int) (r1 : Int) (r2 : Bool) (r3 : Int) (r4 : Int) (r5 : Int) (w0 w : World) (hI : IsS50 w0 w g s0_0 s0_1 s0_2 s0_3) (hB : Below w0.heap.size w0 w) (h : trust_trust_kind.f s0_0 s0_1 s0_2 s0_3 a1 a2 = some (r1, r2, r3, r4, r5)) :
    Calls Try.prog 24 #[.pointer (some ⟨g, 0, none⟩), .int .i64 a1, .int .i64 a2] w fun e w' => e = .returned (.int .i64 r1) ∧ IsS50 w0 w' g r2 r3 r4 r5 ∧ Below w0.heap.size w0 w' ∧ KeepBut w w' g none := by
  have HI0 := Aside0.mk hI
  have HK := Aside0.mk (KeepBut.refl w g none)
  have HL := Aside0.mk hB.size
  clear hI
  have HW0 := Aside0.mk hB.size
  have HB := Aside0.mk hB
  clear hB
  have H : (if s0_0 = true then (if (Int.tmod (wrap64 ((wrap64 (a1 - s0_1)) + 15)) 15) = 0 then (some (3, s0_0, s0_1, s0_2, s0_3)) else (if (Int.tmod (wrap64 ((wrap64 (a1 - s0_1)) + 15)) 15) = 1 then (some (1, s0_0, s0_1, s0_2, s0_3)) else (if (Int.tmod (wrap64 ((wrap64 (a1 - s0_1)) + 15)) 15) ≤ a2 then (some (4, s0_0, s0_1, s0_2, s0_3)) else (some (6, s0_0, s0_1, s0_2, s0_3))))) else (some (2, s0_0, s0_1, s0_2, s0_3))) = some (r1, r2, r3, r4, r5) := h
  clear h
  by_cases c4 : s0_0 = true
  · subst c4
    have H1 : (if (Int.tmod (wrap64 ((wrap64 (a1 - s0_1)) + 15)) 15) = 0 then (some (3, true, s0_1, s0_2, s0_3)) else (if (Int.tmod (wrap64 ((wrap64 (a1 - s0_1)) + 15)) 15) = 1 then (some (1, true, s0_1, s0_2, s0_3)) else (if (Int.tmod (wrap64 ((wrap64 (a1 - s0_1)) + 15)) 15) ≤ a2 then (some (4, true, s0_1, s0_2, s0_3)) else (some (6, true, s0_1, s0_2, s0_3))))) = some (r1, r2, r3, r4, r5) := by rw [if_pos rfl] at H; exact H
    clear H
    have H := H1
    clear H1
    by_cases c5 : (Int.tmod (wrap64 ((wrap64 (a1 - s0_1)) + 15)) 15) = 0
    · rw [if_pos c5] at H
      have c5b0 : ((Int.tmod (wrap64 ((wrap64 (a1 - s0_1)) + 15)) 15) == 0) = true := beq_iff_eq.mpr c5
      have c5b1 : ((Int.tmod (wrap64 ((wrap64 (a1 - s0_1)) + 15)) 15) != 0) = false := bne_eq_false_iff_eq.mpr c5
      clear c5
      simp only [Option.some.injEq, Prod.mk.injEq] at H
      obtain ⟨rfl, rfl, rfl, rfl, rfl⟩ := H
      obtain ⟨HGz6, hgz6⟩ := HI0.out
      have hcz6_0 := cellS50_0 HGz6
      have hcz6_1 := cellS50_1 HGz6
      have hcz6_2 := cellS50_2 HGz6
      have hcz6_3 := cellS50_3 HGz6
      have hfz6_0 := blk_frozen HGz6 0
      have hfz6_1 := blk_frozen HGz6 1
      have hfz6_2 := blk_frozen HGz6 2
      have hfz6_3 := blk_frozen HGz6 3
      clear HGz6 hgz6
      go_enter Try.func24, Try.ntmps24
      go_wp2
      go_ret
      exact ⟨by first | rfl | (simp [errW_none, errW_some] <;> rfl) | (simp [*, errW_none, errW_some] <;> rfl), by repeat (first | (with_reducible first | exact HI0.out | apply IsS50.alloc | apply IsS50.drewN | apply IsS50.drew | apply IsS50.set_0 | apply IsS50.set_1 | apply IsS50.set_2 | apply IsS50.set_3) | exact HI0.out), by repeat (first | (with_reducible first | exact HB.out | apply below_alloc | apply pw_below_drewN | apply below_drew1 | refine below_set ?_ (IsS50.ge HI0.out)) | exact HB.out), by repeat (first | (with_reducible first | exact HK.out | apply KeepBut.set_ | apply keep_drewN | apply keep_drew | apply keep_alloc) | exact HK.out)⟩
    · rw [if_neg c5] at H
      have c5b0 : ((Int.tmod (wrap64 ((wrap64 (a1 - s0_1)) + 15)) 15) == 0) = false := beq_eq_false_iff_ne.mpr c5
      have c5b1 : ((Int.tmod (wrap64 ((wrap64 (a1 - s0_1)) + 15)) 15) != 0) = true := bne_iff_ne.mpr c5
      by_cases c7 : (Int.tmod (wrap64 ((wrap64 (a1 - s0_1)) + 15)) 15) = 1
      · rw [if_pos c7] at H
        have c7b0 : ((Int.tmod (wrap64 ((wrap64 (a1 - s0_1)) + 15)) 15) == 1) = true := beq_iff_eq.mpr c7
        have c7b1 : ((Int.tmod (wrap64 ((wrap64 (a1 - s0_1)) + 15)) 15) != 1) = false := bne_eq_false_iff_eq.mpr c7
        clear c7
        simp only [Option.some.injEq, Prod.mk.injEq] at H
        obtain ⟨rfl, rfl, rfl, rfl, rfl⟩ := H
        obtain ⟨HGz8, hgz8⟩ := HI0.out
        have hcz8_0 := cellS50_0 HGz8
        have hcz8_1 := cellS50_1 HGz8
        have hcz8_2 := cellS50_2 HGz8
        have hcz8_3 := cellS50_3 HGz8
        have hfz8_0 := blk_frozen HGz8 0
        have hfz8_1 := blk_frozen HGz8 1
        have hfz8_2 := blk_frozen HGz8 2
        have hfz8_3 := blk_frozen HGz8 3
        clear HGz8 hgz8
        go_enter Try.func24, Try.ntmps24
        go_wp2
        go_ret
        exact ⟨by first | rfl | (simp [errW_none, errW_some] <;> rfl) | (simp [*, errW_none, errW_some] <;> rfl), by repeat (first | (with_reducible first | exact HI0.out | apply IsS50.alloc | apply IsS50.drewN | apply IsS50.drew | apply IsS50.set_0 | apply IsS50.set_1 | apply IsS50.set_2 | apply IsS50.set_3) | exact HI0.out), by repeat (first | (with_reducible first | exact HB.out | apply below_alloc | apply pw_below_drewN | apply below_drew1 | refine below_set ?_ (IsS50.ge HI0.out)) | exact HB.out), by repeat (first | (with_reducible first | exact HK.out | apply KeepBut.set_ | apply keep_drewN | apply keep_drew | apply keep_alloc) | exact HK.out)⟩
      · rw [if_neg c7] at H
        have c7b0 : ((Int.tmod (wrap64 ((wrap64 (a1 - s0_1)) + 15)) 15) == 1) = false := beq_eq_false_iff_ne.mpr c7
        have c7b1 : ((Int.tmod (wrap64 ((wrap64 (a1 - s0_1)) + 15)) 15) != 1) = true := bne_iff_ne.mpr c7
        by_cases c9 : (Int.tmod (wrap64 ((wrap64 (a1 - s0_1)) + 15)) 15) ≤ a2
        · rw [if_pos c9] at H
          have c9b0 : decide ((Int.tmod (wrap64 ((wrap64 (a1 - s0_1)) + 15)) 15) ≤ a2) = true := decide_eq_true c9
          clear c9
          simp only [Option.some.injEq, Prod.mk.injEq] at H
          obtain ⟨rfl, rfl, rfl, rfl, rfl⟩ := H
          obtain ⟨HGz10, hgz10⟩ := HI0.out
          have hcz10_0 := cellS50_0 HGz10
          have hcz10_1 := cellS50_1 HGz10
          have hcz10_2 := cellS50_2 HGz10
          have hcz10_3 := cellS50_3 HGz10
          have hfz10_0 := blk_frozen HGz10 0
          have hfz10_1 := blk_frozen HGz10 1
          have hfz10_2 := blk_frozen HGz10 2
          have hfz10_3 := blk_frozen HGz10 3
          clear HGz10 hgz10
          go_enter Try.func24, Try.ntmps24
          go_wp2
          go_ret
          exact ⟨by first | rfl | (simp [errW_none, errW_some] <;> rfl) | (simp [*, errW_none, errW_some] <;> rfl), by repeat (first | (with_reducible first | exact HI0.out | apply IsS50.alloc | apply IsS50.drewN | apply IsS50.drew | apply IsS50.set_0 | apply IsS50.set_1 | apply IsS50.set_2 | apply IsS50.set_3) | exact HI0.out), by repeat (first | (with_reducible first | exact HB.out | apply below_alloc | apply pw_below_drewN | apply below_drew1 | refine below_set ?_ (IsS50.ge HI0.out)) | exact HB.out), by repeat (first | (with_reducible first | exact HK.out | apply KeepBut.set_ | apply keep_drewN | apply keep_drew | apply keep_alloc) | exact HK.out)⟩
        · rw [if_neg c9] at H
          have c9b0 : decide ((Int.tmod (wrap64 ((wrap64 (a1 - s0_1)) + 15)) 15) ≤ a2) = false := decide_eq_false c9
          clear c9
          simp only [Option.some.injEq, Prod.mk.injEq] at H
          obtain ⟨rfl, rfl, rfl, rfl, rfl⟩ := H
          obtain ⟨HGz11, hgz11⟩ := HI0.out
          have hcz11_0 := cellS50_0 HGz11
          have hcz11_1 := cellS50_1 HGz11
          have hcz11_2 := cellS50_2 HGz11
          have hcz11_3 := cellS50_3 HGz11
          have hfz11_0 := blk_frozen HGz11 0
          have hfz11_1 := blk_frozen HGz11 1
          have hfz11_2 := blk_frozen HGz11 2
          have hfz11_3 := blk_frozen HGz11 3
          clear HGz11 hgz11
          go_enter Try.func24, Try.ntmps24
          go_wp2
          go_ret
          exact ⟨by first | rfl | (simp [errW_none, errW_some] <;> rfl) | (simp [*, errW_none, errW_some] <;> rfl), by repeat (first | (with_reducible first | exact HI0.out | apply IsS50.alloc | apply IsS50.drewN | apply IsS50.drew | apply IsS50.set_0 | apply IsS50.set_1 | apply IsS50.set_2 | apply IsS50.set_3) | exact HI0.out), by repeat (first | (with_reducible first | exact HB.out | apply below_alloc | apply pw_below_drewN | apply below_drew1 | refine below_set ?_ (IsS50.ge HI0.out)) | exact HB.out), by repeat (first | (with_reducible first | exact HK.out | apply KeepBut.set_ | apply keep_drewN | apply keep_drew | apply keep_alloc) | exact HK.out)⟩
  · replace c4 := Bool.eq_false_iff.mpr c4
    subst c4
    have H1 : (some (2, false, s0_1, s0_2, s0_3)) = some (r1, r2, r3, r4, r5) := by rw [if_neg (show ¬ (false = true) by decide)] at H; exact H
    clear H
    have H := H1
    clear H1
    simp only [Option.some.injEq, Prod.mk.injEq] at H
    obtain ⟨rfl, rfl, rfl, rfl, rfl⟩ := H
    obtain ⟨HGz12, hgz12⟩ := HI0.out
    have hcz12_0 := cellS50_0 HGz12
    have hcz12_1 := cellS50_1 HGz12
    have hcz12_2 := cellS50_2 HGz12
    have hcz12_3 := cellS50_3 HGz12
    have hfz12_0 := blk_frozen HGz12 0
    have hfz12_1 := blk_frozen HGz12 1
    have hfz12_2 := blk_frozen HGz12 2
    have hfz12_3 := blk_frozen HGz12 3
    clear HGz12 hgz12
    go_enter Try.func24, Try.ntmps24
    go_wp2
    go_ret
    exact ⟨by first | rfl | (simp [errW_none, errW_some] <;> rfl) | (simp [*, errW_none, errW_some] <;> rfl), by repeat (first | (with_reducible first | exact HI0.out | apply IsS50.alloc | apply IsS50.drewN | apply IsS50.drew | apply IsS50.set_0 | apply IsS50.set_1 | apply IsS50.set_2 | apply IsS50.set_3) | exact HI0.out), by repeat (first | (with_reducible first | exact HB.out | apply below_alloc | apply pw_below_drewN | apply below_drew1 | refine below_set ?_ (IsS50.ge HI0.out)) | exact HB.out), by repeat (first | (with_reducible first | exact HK.out | apply KeepBut.set_ | apply keep_drewN | apply keep_drew | apply keep_alloc) | exact HK.out)⟩

/-! ### trust_Check: function 19 -/
def trust_Check.f (b0 : Bool) (n1 n2 n3 : Int) (a1 : Int) (l2 : List Int) (a3 : Int) : Option (Bool × Int × Int × Int × List Int × Int) := (trust_Open.f a1 l2).bind fun o => if o.2.2 = true then ((trust_trust_kind.f b0 n1 5 n3 o.2.1 a3).bind fun q => if q.1 = 3 ∨ q.1 = 6 then some (b0, o.2.1, q.1, wrap64 (n3 + 1), [], q.1) else if q.1 = 5 then some (b0, n1, q.1, wrap64 (n3 + 1), [], q.1) else some (true, o.2.1, q.1, 0, o.1, q.1)) else some (b0, n1, 5, wrap64 (n3 + 1), [], 5)
set_option maxHeartbeats 1600000 in
set_option maxRecDepth 100000 in
theorem trust_Check.calls (a0_0 : Bool) (a0_1 a0_2 a0_3 : Int) (a1 : Int) (A2 : Option Addr) (c2 : Nat) (l2 : List Int) (a3 : Int) (r1 : Bool) (r2 r3 r4 : Int) (r5 : List Int) (r6 : Int) (w : World) (hr2 : Kd.C (Kd.int .u8) w A2 l2.length l2) (hc2 : l2.length ≤ c2) (h : trust_Check.f a0_0 a0_1 a0_2 a0_3 a1 l2 a3 = some (r1, r2, r3, r4, r5, r6)) :
    Calls Try.prog 19 #[.agg #[.bool a0_0, .int .i64 a0_1, .int .i64 a0_2, .int .i64 a0_3], .int .i64 a1, .slice A2 l2.length c2, .int .i64 a3] w fun e w' => ∃ v4_ : Value, e = .returned (.tuple #[.agg #[.bool r1, .int .i64 r2, .int .i64 r3, .int .i64 r4], v4_, .int .i64 r6]) ∧ Kd.R (Kd.int .u8) 5 w' w.heap.size (fun _ => True) v4_ r5 ∧ Below w.heap.size w w' := by
  have HR2 := Aside0.mk hr2
  have HC2 := Aside0.mk hc2
  clear hr2 hc2
  unfold trust_Check.f at h
  obtain ⟨⟨o1, o2, o3⟩, hO, h⟩ := Option.bind_eq_some_iff.mp h
  have HOP := Aside0.mk hO
  have H := Aside0.mk h
  clear hO h
  have hu24 := Try.underlying24
  go_enter Try.func19, Try.ntmps19
  go_wp2_with fail
  have hb3 : Below w.heap.size w (((w.alloc (.cells #[.bool a0_0, .int .i64 a0_1, .int .i64 a0_2, .int .i64 a0_3] 24)).alloc (.cells #[.bool false, .int .i64 0, .int .i64 0, .int .i64 0] 24)).alloc (.cells #[.bool a0_0, .int .i64 a0_1, .int .i64 a0_2, .int .i64 a0_3] 50)) := below_alloc (below_alloc (below_alloc (Below.refl _ _) _) _) _
  have hR3 : (((w.alloc (.cells #[.bool a0_0, .int .i64 a0_1, .int .i64 a0_2, .int .i64 a0_3] 24)).alloc (.cells #[.bool false, .int .i64 0, .int .i64 0, .int .i64 0] 24)).alloc (.cells #[.bool a0_0, .int .i64 a0_1, .int .i64 a0_2, .int .i64 a0_3] 50)).heap[w.heap.size + 1]? = some (.cells #[.bool false, .int .i64 0, .int .i64 0, .int .i64 0] 24 (0, 0)) := by
    have := blk_new (w.alloc (.cells #[.bool a0_0, .int .i64 a0_1, .int .i64 a0_2, .int .i64 a0_3] 24)) (.cells #[.bool false, .int .i64 0, .int .i64 0, .int .i64 0] 24)
    rw [World.size_alloc] at this
    exact blk_alloc this _
  have hX3 : (((w.alloc (.cells #[.bool a0_0, .int .i64 a0_1, .int .i64 a0_2, .int .i64 a0_3] 24)).alloc (.cells #[.bool false, .int .i64 0, .int .i64 0, .int .i64 0] 24)).alloc (.cells #[.bool a0_0, .int .i64 a0_1, .int .i64 a0_2, .int .i64 a0_3] 50)).heap[w.heap.size + 1 + 1]? = some (.cells #[.bool a0_0, .int .i64 a0_1, .int .i64 a0_2, .int .i64 a0_3] 50 (0, 0)) := by
    have := blk_new ((w.alloc (.cells #[.bool a0_0, .int .i64 a0_1, .int .i64 a0_2, .int .i64 a0_3] 24)).alloc (.cells #[.bool false, .int .i64 0, .int .i64 0, .int .i64 0] 24)) (.cells #[.bool a0_0, .int .i64 a0_1, .int .i64 a0_2, .int .i64 a0_3] 50)
    rw [World.size_alloc, World.size_alloc] at this
    exact this
  generalize (((w.alloc (.cells #[.bool a0_0, .int .i64 a0_1, .int .i64 a0_2, .int .i64 a0_3] 24)).alloc (.cells #[.bool false, .int .i64 0, .int .i64 0, .int .i64 0] 24)).alloc (.cells #[.bool a0_0, .int .i64 a0_1, .int .i64 a0_2, .int .i64 a0_3] 50)) = W3 at *
  refine (trust_Open.calls a1 A2 c2 l2 o1 o2 o3 _ (Kd.C_below HR2.out hb3) HC2.out HOP.out).mono ?_
  rintro e W4 ⟨v1, rfl, ho, hb4⟩
  have hR4 := blk_below hR3 hb4
  have hX4 := blk_below hX3 hb4
  have hB4 : Below w.heap.size w W4 := hb3.trans (hb4.mono hb3.size)
  have HO := Aside0.mk ho
  have HR4 := Aside0.mk hR4
  have HX4 := Aside0.mk hX4
  have HB4 := Aside0.mk hB4
  have H3 := Aside0.mk (blk_lt hX3)
  have c42 : W4.cell? ⟨w.heap.size + 1 + 1, 2, none⟩ = some (.int .i64 a0_2) := by rw [blk_cell hX4]; rfl
  have f2 : W4.frozen? ⟨w.heap.size + 1 + 1, 2, none⟩ = false := blk_frozen hX4 2
  have hX5 := blk_set hX4 2 (.int .i64 5)
  have c52 : (W4.setCell ⟨w.heap.size + 1 + 1, 2, none⟩ (.int .i64 5)).cell? ⟨w.heap.size + 1 + 1, 2, none⟩ = some (.int .i64 5) := by rw [blk_cell hX5]; rfl
  have c53 : (W4.setCell ⟨w.heap.size + 1 + 1, 2, none⟩ (.int .i64 5)).cell? ⟨w.heap.size + 1 + 1, 3, none⟩ = some (.int .i64 a0_3) := by rw [blk_cell hX5]; rfl
  have f53 : (W4.setCell ⟨w.heap.size + 1 + 1, 2, none⟩ (.int .i64 5)).frozen? ⟨w.heap.size + 1 + 1, 3, none⟩ = false := blk_frozen hX5 3
  have HX5 := Aside0.mk hX5
  clear hX5 hX4 hR4 hB4 hb4 ho hR3 hX3 hb3 h
  have h := H.out
  cases o3 with
  | false =>
    rw [if_neg (by decide)] at h
    have hX6 := blk_set HX5.out 3 (.int .i64 (wrap64 (a0_3 + 1)))
    have hR6 := blk_far (blk_far HR4.out (p := ⟨w.heap.size + 1 + 1, 2, none⟩) (by show w.heap.size + 1 ≠ w.heap.size + 1 + 1; omega) (.int .i64 5)) (p := ⟨w.heap.size + 1 + 1, 3, none⟩) (by show w.heap.size + 1 ≠ w.heap.size + 1 + 1; omega) (.int .i64 (wrap64 (a0_3 + 1)))
    have c60 : ((W4.setCell ⟨w.heap.size + 1 + 1, 2, none⟩ (.int .i64 5)).setCell ⟨w.heap.size + 1 + 1, 3, none⟩ (.int .i64 (wrap64 (a0_3 + 1)))).cell? ⟨w.heap.size + 1 + 1, 0, none⟩ = some (.bool a0_0) := by rw [blk_cell hX6]; rfl
    have c61 : ((W4.setCell ⟨w.heap.size + 1 + 1, 2, none⟩ (.int .i64 5)).setCell ⟨w.heap.size + 1 + 1, 3, none⟩ (.int .i64 (wrap64 (a0_3 + 1)))).cell? ⟨w.heap.size + 1 + 1, 1, none⟩ = some (.int .i64 a0_1) := by rw [blk_cell hX6]; rfl
    have c62 : ((W4.setCell ⟨w.heap.size + 1 + 1, 2, none⟩ (.int .i64 5)).setCell ⟨w.heap.size + 1 + 1, 3, none⟩ (.int .i64 (wrap64 (a0_3 + 1)))).cell? ⟨w.heap.size + 1 + 1, 2, none⟩ = some (.int .i64 5) := by rw [blk_cell hX6]; rfl
    have c63 : ((W4.setCell ⟨w.heap.size + 1 + 1, 2, none⟩ (.int .i64 5)).setCell ⟨w.heap.size + 1 + 1, 3, none⟩ (.int .i64 (wrap64 (a0_3 + 1)))).cell? ⟨w.heap.size + 1 + 1, 3, none⟩ = some (.int .i64 (wrap64 (a0_3 + 1))) := by rw [blk_cell hX6]; rfl
    have r60 : ((W4.setCell ⟨w.heap.size + 1 + 1, 2, none⟩ (.int .i64 5)).setCell ⟨w.heap.size + 1 + 1, 3, none⟩ (.int .i64 (wrap64 (a0_3 + 1)))).cell? ⟨w.heap.size + 1, 0, none⟩ = some (.bool false) := by rw [blk_cell hR6]; rfl
    have g60 : ((W4.setCell ⟨w.heap.size + 1 + 1, 2, none⟩ (.int .i64 5)).setCell ⟨w.heap.size + 1 + 1, 3, none⟩ (.int .i64 (wrap64 (a0_3 + 1)))).frozen? ⟨w.heap.size + 1, 0, none⟩ = false := blk_frozen hR6 0
    have r61 : ((W4.setCell ⟨w.heap.size + 1 + 1, 2, none⟩ (.int .i64 5)).setCell ⟨w.heap.size + 1 + 1, 3, none⟩ (.int .i64 (wrap64 (a0_3 + 1)))).cell? ⟨w.heap.size + 1, 1, none⟩ = some (.int .i64 0) := by rw [blk_cell hR6]; rfl
    have g61 : ((W4.setCell ⟨w.heap.size + 1 + 1, 2, none⟩ (.int .i64 5)).setCell ⟨w.heap.size + 1 + 1, 3, none⟩ (.int .i64 (wrap64 (a0_3 + 1)))).frozen? ⟨w.heap.size + 1, 1, none⟩ = false := blk_frozen hR6 1
    have r62 : ((W4.setCell ⟨w.heap.size + 1 + 1, 2, none⟩ (.int .i64 5)).setCell ⟨w.heap.size + 1 + 1, 3, none⟩ (.int .i64 (wrap64 (a0_3 + 1)))).cell? ⟨w.heap.size + 1, 2, none⟩ = some (.int .i64 0) := by rw [blk_cell hR6]; rfl
    have g62 : ((W4.setCell ⟨w.heap.size + 1 + 1, 2, none⟩ (.int .i64 5)).setCell ⟨w.heap.size + 1 + 1, 3, none⟩ (.int .i64 (wrap64 (a0_3 + 1)))).frozen? ⟨w.heap.size + 1, 2, none⟩ = false := blk_frozen hR6 2
    have r63 : ((W4.setCell ⟨w.heap.size + 1 + 1, 2, none⟩ (.int .i64 5)).setCell ⟨w.heap.size + 1 + 1, 3, none⟩ (.int .i64 (wrap64 (a0_3 + 1)))).cell? ⟨w.heap.size + 1, 3, none⟩ = some (.int .i64 0) := by rw [blk_cell hR6]; rfl
    have g63 : ((W4.setCell ⟨w.heap.size + 1 + 1, 2, none⟩ (.int .i64 5)).setCell ⟨w.heap.size + 1 + 1, 3, none⟩ (.int .i64 (wrap64 (a0_3 + 1)))).frozen? ⟨w.heap.size + 1, 3, none⟩ = false := blk_frozen hR6 3
    go_wp2_with fail
    go_region
    go_wp2_with fail
    have h1 := Option.some.inj h
    clear h
    obtain ⟨rfl, h2⟩ := Prod.mk.inj h1
    obtain ⟨rfl, h3⟩ := Prod.mk.inj h2
    obtain ⟨rfl, h4⟩ := Prod.mk.inj h3
    obtain ⟨rfl, h5⟩ := Prod.mk.inj h4
    obtain ⟨rfl, rfl⟩ := Prod.mk.inj h5
    have hx := H3.out
    refine bodyPost_ret (results_ctt rfl _ _ (w.heap.size + 1) 24 #[.bool a0_0, .int .i64 a0_1, .int .i64 5, .int .i64 (wrap64 (a0_3 + 1))] (0, 0) _ rfl (blk_drew (blk_put (cs := #[.bool a0_0, .int .i64 a0_1, .int .i64 5, .int .i64 0]) (blk_put (cs := #[.bool a0_0, .int .i64 a0_1, .int .i64 0, .int .i64 0]) (blk_put (cs := #[.bool a0_0, .int .i64 0, .int .i64 0, .int .i64 0]) (blk_put (cs := #[.bool false, .int .i64 0, .int .i64 0, .int .i64 0]) hR6 0 _ rfl) 1 _ rfl) 2 _ rfl) 3 _ rfl)) Try.underlying24 rfl (by kernel_rfl)) rfl ?_
    exact ⟨_, rfl, Kd.R_nil _ _ _ _ _, below_drew1 ((((((HB4.out.setCell (p := ⟨w.heap.size + 1 + 1, 2, none⟩) (by show w.heap.size ≤ w.heap.size + 1 + 1; omega) _).setCell (p := ⟨w.heap.size + 1 + 1, 3, none⟩) (by show w.heap.size ≤ w.heap.size + 1 + 1; omega) _).setCell (p := ⟨w.heap.size + 1, 0, none⟩) (by show w.heap.size ≤ w.heap.size + 1; omega) _).setCell (p := ⟨w.heap.size + 1, 1, none⟩) (by show w.heap.size ≤ w.heap.size + 1; omega) _).setCell (p := ⟨w.heap.size + 1, 2, none⟩) (by show w.heap.size ≤ w.heap.size + 1; omega) _).setCell (p := ⟨w.heap.size + 1, 3, none⟩) (by show w.heap.size ≤ w.heap.size + 1; omega) _)⟩
  | true =>
    rw [if_pos rfl] at h
    obtain ⟨⟨q1, q2, q3, q4, q5⟩, hq, h⟩ := Option.bind_eq_some_iff.mp h
    have hsame : a0_0 = q2 ∧ a0_1 = q3 ∧ 5 = q4 ∧ a0_3 = q5 := by
      unfold trust_trust_kind.f at hq
      repeat' split at hq
      all_goals (have := Option.some.inj hq; simp only [Prod.mk.injEq] at this; exact this.2)
    obtain ⟨rfl, rfl, rfl, rfl⟩ := hsame
    have HQ := Aside0.mk hq
    clear hq
    have hR5 := blk_far HR4.out (p := ⟨w.heap.size + 1 + 1, 2, none⟩) (by show w.heap.size + 1 ≠ w.heap.size + 1 + 1; omega) (.int .i64 5)
    have HR5 := Aside0.mk hR5
    have HB5 := Aside0.mk (HB4.out.setCell (p := ⟨w.heap.size + 1 + 1, 2, none⟩) (by show w.heap.size ≤ w.heap.size + 1 + 1; omega) (.int .i64 5))
    have HO5 := Aside0.mk (Kd.R_kept (S := fun k => k = w.heap.size + 1 + 1) (Kd.R_bound HO.out) ((Kept.refl W4 (fun k => k = w.heap.size + 1 + 1)).setCell (p := ⟨w.heap.size + 1 + 1, 2, none⟩) (.inl rfl) (.int .i64 5)) (fun k hk e => by have := hk.2.1; have := H3.out; omega))
    clear hR5
    go_wp2_with fail
    refine (trust_trust_kind.calls (w.heap.size + 1 + 1) a0_0 a0_1 5 a0_3 o2 a3 q1 _ _ _ _ w _ ⟨HX5.out, by omega⟩ HB5.out HQ.out).mono ?_
    rintro e W6 ⟨rfl, hI6, hB6, hk6⟩
    have hX6 : W6.heap[w.heap.size + 1 + 1]? = some (.cells #[.bool a0_0, .int .i64 a0_1, .int .i64 5, .int .i64 a0_3] 50 (0, 0)) := hI6.1
    have hR6 : W6.heap[w.heap.size + 1]? = some (.cells #[.bool false, .int .i64 0, .int .i64 0, .int .i64 0] 24 (0, 0)) := (hk6.2 _ (blk_lt HR5.out) (by omega) (by simp)).trans HR5.out
    have HO6 := Aside0.mk (Kd.R_kept (S := fun k => k = w.heap.size + 1 + 1) (Kd.R_bound HO5.out) ((Kept.refl _ (fun k => k = w.heap.size + 1 + 1)).of_keep hk6 (.inl rfl)) (fun k hk e => by have := hk.2.1; have := H3.out; omega))
    have HB6 := Aside0.mk hB6
    have c62 : W6.cell? ⟨w.heap.size + 1 + 1, 2, none⟩ = some (.int .i64 5) := by rw [blk_cell hX6]; rfl
    clear hI6 hB6 hk6 c42 f2 c52 c53 f53
    by_cases d3 : q1 = 3
    · subst d3
      rw [if_pos (.inl rfl)] at h
      have fa0 : W6.frozen? ⟨w.heap.size + 1 + 1, 2, none⟩ = false := blk_frozen hX6 2
      have hXa0 : (W6.setCell ⟨w.heap.size + 1 + 1, 2, none⟩ (.int .i64 3)).heap[w.heap.size + 1 + 1]? = some (.cells #[.bool a0_0, .int .i64 a0_1, .int .i64 3, .int .i64 a0_3] 50 (0, 0)) := blk_put hX6 2 _ rfl
      have hRa0 := blk_far hR6 (p := ⟨w.heap.size + 1 + 1, 2, none⟩) (by show w.heap.size + 1 ≠ w.heap.size + 1 + 1; omega) (.int .i64 3)
      have ca00 : (W6.setCell ⟨w.heap.size + 1 + 1, 2, none⟩ (.int .i64 3)).cell? ⟨w.heap.size + 1 + 1, 0, none⟩ = some (.bool a0_0) := by rw [blk_cell hXa0]; rfl
      have ca01 : (W6.setCell ⟨w.heap.size + 1 + 1, 2, none⟩ (.int .i64 3)).cell? ⟨w.heap.size + 1 + 1, 1, none⟩ = some (.int .i64 a0_1) := by rw [blk_cell hXa0]; rfl
      have ca02 : (W6.setCell ⟨w.heap.size + 1 + 1, 2, none⟩ (.int .i64 3)).cell? ⟨w.heap.size + 1 + 1, 2, none⟩ = some (.int .i64 3) := by rw [blk_cell hXa0]; rfl
      have ca03 : (W6.setCell ⟨w.heap.size + 1 + 1, 2, none⟩ (.int .i64 3)).cell? ⟨w.heap.size + 1 + 1, 3, none⟩ = some (.int .i64 a0_3) := by rw [blk_cell hXa0]; rfl
      have fa1 : (W6.setCell ⟨w.heap.size + 1 + 1, 2, none⟩ (.int .i64 3)).frozen? ⟨w.heap.size + 1 + 1, 1, none⟩ = false := blk_frozen hXa0 1
      have hXa1 : ((W6.setCell ⟨w.heap.size + 1 + 1, 2, none⟩ (.int .i64 3)).setCell ⟨w.heap.size + 1 + 1, 1, none⟩ (.int .i64 o2)).heap[w.heap.size + 1 + 1]? = some (.cells #[.bool a0_0, .int .i64 o2, .int .i64 3, .int .i64 a0_3] 50 (0, 0)) := blk_put hXa0 1 _ rfl
      have hRa1 := blk_far hRa0 (p := ⟨w.heap.size + 1 + 1, 1, none⟩) (by show w.heap.size + 1 ≠ w.heap.size + 1 + 1; omega) (.int .i64 o2)
      have ca10 : ((W6.setCell ⟨w.heap.size + 1 + 1, 2, none⟩ (.int .i64 3)).setCell ⟨w.heap.size + 1 + 1, 1, none⟩ (.int .i64 o2)).cell? ⟨w.heap.size + 1 + 1, 0, none⟩ = some (.bool a0_0) := by rw [blk_cell hXa1]; rfl
      have ca11 : ((W6.setCell ⟨w.heap.size + 1 + 1, 2, none⟩ (.int .i64 3)).setCell ⟨w.heap.size + 1 + 1, 1, none⟩ (.int .i64 o2)).cell? ⟨w.heap.size + 1 + 1, 1, none⟩ = some (.int .i64 o2) := by rw [blk_cell hXa1]; rfl
      have ca12 : ((W6.setCell ⟨w.heap.size + 1 + 1, 2, none⟩ (.int .i64 3)).setCell ⟨w.heap.size + 1 + 1, 1, none⟩ (.int .i64 o2)).cell? ⟨w.heap.size + 1 + 1, 2, none⟩ = some (.int .i64 3) := by rw [blk_cell hXa1]; rfl
      have ca13 : ((W6.setCell ⟨w.heap.size + 1 + 1, 2, none⟩ (.int .i64 3)).setCell ⟨w.heap.size + 1 + 1, 1, none⟩ (.int .i64 o2)).cell? ⟨w.heap.size + 1 + 1, 3, none⟩ = some (.int .i64 a0_3) := by rw [blk_cell hXa1]; rfl
      have fa2 : ((W6.setCell ⟨w.heap.size + 1 + 1, 2, none⟩ (.int .i64 3)).setCell ⟨w.heap.size + 1 + 1, 1, none⟩ (.int .i64 o2)).frozen? ⟨w.heap.size + 1 + 1, 3, none⟩ = false := blk_frozen hXa1 3
      have hXa2 : (((W6.setCell ⟨w.heap.size + 1 + 1, 2, none⟩ (.int .i64 3)).setCell ⟨w.heap.size + 1 + 1, 1, none⟩ (.int .i64 o2)).setCell ⟨w.heap.size + 1 + 1, 3, none⟩ (.int .i64 (wrap64 (a0_3 + 1)))).heap[w.heap.size + 1 + 1]? = some (.cells #[.bool a0_0, .int .i64 o2, .int .i64 3, .int .i64 (wrap64 (a0_3 + 1))] 50 (0, 0)) := blk_put hXa1 3 _ rfl
      have hRa2 := blk_far hRa1 (p := ⟨w.heap.size + 1 + 1, 3, none⟩) (by show w.heap.size + 1 ≠ w.heap.size + 1 + 1; omega) (.int .i64 (wrap64 (a0_3 + 1)))
      have ca20 : (((W6.setCell ⟨w.heap.size + 1 + 1, 2, none⟩ (.int .i64 3)).setCell ⟨w.heap.size + 1 + 1, 1, none⟩ (.int .i64 o2)).setCell ⟨w.heap.size + 1 + 1, 3, none⟩ (.int .i64 (wrap64 (a0_3 + 1)))).cell? ⟨w.heap.size + 1 + 1, 0, none⟩ = some (.bool a0_0) := by rw [blk_cell hXa2]; rfl
      have ca21 : (((W6.setCell ⟨w.heap.size + 1 + 1, 2, none⟩ (.int .i64 3)).setCell ⟨w.heap.size + 1 + 1, 1, none⟩ (.int .i64 o2)).setCell ⟨w.heap.size + 1 + 1, 3, none⟩ (.int .i64 (wrap64 (a0_3 + 1)))).cell? ⟨w.heap.size + 1 + 1, 1, none⟩ = some (.int .i64 o2) := by rw [blk_cell hXa2]; rfl
      have ca22 : (((W6.setCell ⟨w.heap.size + 1 + 1, 2, none⟩ (.int .i64 3)).setCell ⟨w.heap.size + 1 + 1, 1, none⟩ (.int .i64 o2)).setCell ⟨w.heap.size + 1 + 1, 3, none⟩ (.int .i64 (wrap64 (a0_3 + 1)))).cell? ⟨w.heap.size + 1 + 1, 2, none⟩ = some (.int .i64 3) := by rw [blk_cell hXa2]; rfl
      have ca23 : (((W6.setCell ⟨w.heap.size + 1 + 1, 2, none⟩ (.int .i64 3)).setCell ⟨w.heap.size + 1 + 1, 1, none⟩ (.int .i64 o2)).setCell ⟨w.heap.size + 1 + 1, 3, none⟩ (.int .i64 (wrap64 (a0_3 + 1)))).cell? ⟨w.heap.size + 1 + 1, 3, none⟩ = some (.int .i64 (wrap64 (a0_3 + 1))) := by rw [blk_cell hXa2]; rfl
      have ra0 : (((W6.setCell ⟨w.heap.size + 1 + 1, 2, none⟩ (.int .i64 3)).setCell ⟨w.heap.size + 1 + 1, 1, none⟩ (.int .i64 o2)).setCell ⟨w.heap.size + 1 + 1, 3, none⟩ (.int .i64 (wrap64 (a0_3 + 1)))).cell? ⟨w.heap.size + 1, 0, none⟩ = some (.bool false) := by rw [blk_cell hRa2]; rfl
      have ga0 : (((W6.setCell ⟨w.heap.size + 1 + 1, 2, none⟩ (.int .i64 3)).setCell ⟨w.heap.size + 1 + 1, 1, none⟩ (.int .i64 o2)).setCell ⟨w.heap.size + 1 + 1, 3, none⟩ (.int .i64 (wrap64 (a0_3 + 1)))).frozen? ⟨w.heap.size + 1, 0, none⟩ = false := blk_frozen hRa2 0
      have ra1 : (((W6.setCell ⟨w.heap.size + 1 + 1, 2, none⟩ (.int .i64 3)).setCell ⟨w.heap.size + 1 + 1, 1, none⟩ (.int .i64 o2)).setCell ⟨w.heap.size + 1 + 1, 3, none⟩ (.int .i64 (wrap64 (a0_3 + 1)))).cell? ⟨w.heap.size + 1, 1, none⟩ = some (.int .i64 0) := by rw [blk_cell hRa2]; rfl
      have ga1 : (((W6.setCell ⟨w.heap.size + 1 + 1, 2, none⟩ (.int .i64 3)).setCell ⟨w.heap.size + 1 + 1, 1, none⟩ (.int .i64 o2)).setCell ⟨w.heap.size + 1 + 1, 3, none⟩ (.int .i64 (wrap64 (a0_3 + 1)))).frozen? ⟨w.heap.size + 1, 1, none⟩ = false := blk_frozen hRa2 1
      have ra2 : (((W6.setCell ⟨w.heap.size + 1 + 1, 2, none⟩ (.int .i64 3)).setCell ⟨w.heap.size + 1 + 1, 1, none⟩ (.int .i64 o2)).setCell ⟨w.heap.size + 1 + 1, 3, none⟩ (.int .i64 (wrap64 (a0_3 + 1)))).cell? ⟨w.heap.size + 1, 2, none⟩ = some (.int .i64 0) := by rw [blk_cell hRa2]; rfl
      have ga2 : (((W6.setCell ⟨w.heap.size + 1 + 1, 2, none⟩ (.int .i64 3)).setCell ⟨w.heap.size + 1 + 1, 1, none⟩ (.int .i64 o2)).setCell ⟨w.heap.size + 1 + 1, 3, none⟩ (.int .i64 (wrap64 (a0_3 + 1)))).frozen? ⟨w.heap.size + 1, 2, none⟩ = false := blk_frozen hRa2 2
      have ra3 : (((W6.setCell ⟨w.heap.size + 1 + 1, 2, none⟩ (.int .i64 3)).setCell ⟨w.heap.size + 1 + 1, 1, none⟩ (.int .i64 o2)).setCell ⟨w.heap.size + 1 + 1, 3, none⟩ (.int .i64 (wrap64 (a0_3 + 1)))).cell? ⟨w.heap.size + 1, 3, none⟩ = some (.int .i64 0) := by rw [blk_cell hRa2]; rfl
      have ga3 : (((W6.setCell ⟨w.heap.size + 1 + 1, 2, none⟩ (.int .i64 3)).setCell ⟨w.heap.size + 1 + 1, 1, none⟩ (.int .i64 o2)).setCell ⟨w.heap.size + 1 + 1, 3, none⟩ (.int .i64 (wrap64 (a0_3 + 1)))).frozen? ⟨w.heap.size + 1, 3, none⟩ = false := blk_frozen hRa2 3
      go_wp2_with fail
      go_region
      go_wp2_with fail
      have h1 := Option.some.inj h
      clear h
      obtain ⟨rfl, h2⟩ := Prod.mk.inj h1
      obtain ⟨rfl, h3⟩ := Prod.mk.inj h2
      obtain ⟨rfl, h4⟩ := Prod.mk.inj h3
      obtain ⟨rfl, h5⟩ := Prod.mk.inj h4
      obtain ⟨rfl, rfl⟩ := Prod.mk.inj h5
      refine bodyPost_ret (results_ctt rfl _ _ (w.heap.size + 1) 24 #[.bool a0_0, .int .i64 o2, .int .i64 3, .int .i64 (wrap64 (a0_3 + 1))] (0, 0) _ rfl (blk_drew (blk_put (cs := #[.bool a0_0, .int .i64 o2, .int .i64 3, .int .i64 0]) (blk_put (cs := #[.bool a0_0, .int .i64 o2, .int .i64 0, .int .i64 0]) (blk_put (cs := #[.bool a0_0, .int .i64 0, .int .i64 0, .int .i64 0]) (blk_put (cs := #[.bool false, .int .i64 0, .int .i64 0, .int .i64 0]) hRa2 0 _ rfl) 1 _ rfl) 2 _ rfl) 3 _ rfl)) Try.underlying24 rfl (by kernel_rfl)) rfl ?_
      exact ⟨_, rfl, Kd.R_nil _ _ _ _ _, below_drew1 (((((((HB6.out.setCell (p := ⟨w.heap.size + 1 + 1, 2, none⟩) (by show w.heap.size ≤ w.heap.size + 1 + 1; omega) _).setCell (p := ⟨w.heap.size + 1 + 1, 1, none⟩) (by show w.heap.size ≤ w.heap.size + 1 + 1; omega) _).setCell (p := ⟨w.heap.size + 1 + 1, 3, none⟩) (by show w.heap.size ≤ w.heap.size + 1 + 1; omega) _).setCell (p := ⟨w.heap.size + 1, 0, none⟩) (by show w.heap.size ≤ w.heap.size + 1; omega) _).setCell (p := ⟨w.heap.size + 1, 1, none⟩) (by show w.heap.size ≤ w.heap.size + 1; omega) _).setCell (p := ⟨w.heap.size + 1, 2, none⟩) (by show w.heap.size ≤ w.heap.size + 1; omega) _).setCell (p := ⟨w.heap.size + 1, 3, none⟩) (by show w.heap.size ≤ w.heap.size + 1; omega) _)⟩
    by_cases d6 : q1 = 6
    · subst d6
      rw [if_pos (.inr rfl)] at h
      have fb0 : W6.frozen? ⟨w.heap.size + 1 + 1, 2, none⟩ = false := blk_frozen hX6 2
      have hXb0 : (W6.setCell ⟨w.heap.size + 1 + 1, 2, none⟩ (.int .i64 6)).heap[w.heap.size + 1 + 1]? = some (.cells #[.bool a0_0, .int .i64 a0_1, .int .i64 6, .int .i64 a0_3] 50 (0, 0)) := blk_put hX6 2 _ rfl
      have hRb0 := blk_far hR6 (p := ⟨w.heap.size + 1 + 1, 2, none⟩) (by show w.heap.size + 1 ≠ w.heap.size + 1 + 1; omega) (.int .i64 6)
      have cb00 : (W6.setCell ⟨w.heap.size + 1 + 1, 2, none⟩ (.int .i64 6)).cell? ⟨w.heap.size + 1 + 1, 0, none⟩ = some (.bool a0_0) := by rw [blk_cell hXb0]; rfl
      have cb01 : (W6.setCell ⟨w.heap.size + 1 + 1, 2, none⟩ (.int .i64 6)).cell? ⟨w.heap.size + 1 + 1, 1, none⟩ = some (.int .i64 a0_1) := by rw [blk_cell hXb0]; rfl
      have cb02 : (W6.setCell ⟨w.heap.size + 1 + 1, 2, none⟩ (.int .i64 6)).cell? ⟨w.heap.size + 1 + 1, 2, none⟩ = some (.int .i64 6) := by rw [blk_cell hXb0]; rfl
      have cb03 : (W6.setCell ⟨w.heap.size + 1 + 1, 2, none⟩ (.int .i64 6)).cell? ⟨w.heap.size + 1 + 1, 3, none⟩ = some (.int .i64 a0_3) := by rw [blk_cell hXb0]; rfl
      have fb1 : (W6.setCell ⟨w.heap.size + 1 + 1, 2, none⟩ (.int .i64 6)).frozen? ⟨w.heap.size + 1 + 1, 1, none⟩ = false := blk_frozen hXb0 1
      have hXb1 : ((W6.setCell ⟨w.heap.size + 1 + 1, 2, none⟩ (.int .i64 6)).setCell ⟨w.heap.size + 1 + 1, 1, none⟩ (.int .i64 o2)).heap[w.heap.size + 1 + 1]? = some (.cells #[.bool a0_0, .int .i64 o2, .int .i64 6, .int .i64 a0_3] 50 (0, 0)) := blk_put hXb0 1 _ rfl
      have hRb1 := blk_far hRb0 (p := ⟨w.heap.size + 1 + 1, 1, none⟩) (by show w.heap.size + 1 ≠ w.heap.size + 1 + 1; omega) (.int .i64 o2)
      have cb10 : ((W6.setCell ⟨w.heap.size + 1 + 1, 2, none⟩ (.int .i64 6)).setCell ⟨w.heap.size + 1 + 1, 1, none⟩ (.int .i64 o2)).cell? ⟨w.heap.size + 1 + 1, 0, none⟩ = some (.bool a0_0) := by rw [blk_cell hXb1]; rfl
      have cb11 : ((W6.setCell ⟨w.heap.size + 1 + 1, 2, none⟩ (.int .i64 6)).setCell ⟨w.heap.size + 1 + 1, 1, none⟩ (.int .i64 o2)).cell? ⟨w.heap.size + 1 + 1, 1, none⟩ = some (.int .i64 o2) := by rw [blk_cell hXb1]; rfl
      have cb12 : ((W6.setCell ⟨w.heap.size + 1 + 1, 2, none⟩ (.int .i64 6)).setCell ⟨w.heap.size + 1 + 1, 1, none⟩ (.int .i64 o2)).cell? ⟨w.heap.size + 1 + 1, 2, none⟩ = some (.int .i64 6) := by rw [blk_cell hXb1]; rfl
      have cb13 : ((W6.setCell ⟨w.heap.size + 1 + 1, 2, none⟩ (.int .i64 6)).setCell ⟨w.heap.size + 1 + 1, 1, none⟩ (.int .i64 o2)).cell? ⟨w.heap.size + 1 + 1, 3, none⟩ = some (.int .i64 a0_3) := by rw [blk_cell hXb1]; rfl
      have fb2 : ((W6.setCell ⟨w.heap.size + 1 + 1, 2, none⟩ (.int .i64 6)).setCell ⟨w.heap.size + 1 + 1, 1, none⟩ (.int .i64 o2)).frozen? ⟨w.heap.size + 1 + 1, 3, none⟩ = false := blk_frozen hXb1 3
      have hXb2 : (((W6.setCell ⟨w.heap.size + 1 + 1, 2, none⟩ (.int .i64 6)).setCell ⟨w.heap.size + 1 + 1, 1, none⟩ (.int .i64 o2)).setCell ⟨w.heap.size + 1 + 1, 3, none⟩ (.int .i64 (wrap64 (a0_3 + 1)))).heap[w.heap.size + 1 + 1]? = some (.cells #[.bool a0_0, .int .i64 o2, .int .i64 6, .int .i64 (wrap64 (a0_3 + 1))] 50 (0, 0)) := blk_put hXb1 3 _ rfl
      have hRb2 := blk_far hRb1 (p := ⟨w.heap.size + 1 + 1, 3, none⟩) (by show w.heap.size + 1 ≠ w.heap.size + 1 + 1; omega) (.int .i64 (wrap64 (a0_3 + 1)))
      have cb20 : (((W6.setCell ⟨w.heap.size + 1 + 1, 2, none⟩ (.int .i64 6)).setCell ⟨w.heap.size + 1 + 1, 1, none⟩ (.int .i64 o2)).setCell ⟨w.heap.size + 1 + 1, 3, none⟩ (.int .i64 (wrap64 (a0_3 + 1)))).cell? ⟨w.heap.size + 1 + 1, 0, none⟩ = some (.bool a0_0) := by rw [blk_cell hXb2]; rfl
      have cb21 : (((W6.setCell ⟨w.heap.size + 1 + 1, 2, none⟩ (.int .i64 6)).setCell ⟨w.heap.size + 1 + 1, 1, none⟩ (.int .i64 o2)).setCell ⟨w.heap.size + 1 + 1, 3, none⟩ (.int .i64 (wrap64 (a0_3 + 1)))).cell? ⟨w.heap.size + 1 + 1, 1, none⟩ = some (.int .i64 o2) := by rw [blk_cell hXb2]; rfl
      have cb22 : (((W6.setCell ⟨w.heap.size + 1 + 1, 2, none⟩ (.int .i64 6)).setCell ⟨w.heap.size + 1 + 1, 1, none⟩ (.int .i64 o2)).setCell ⟨w.heap.size + 1 + 1, 3, none⟩ (.int .i64 (wrap64 (a0_3 + 1)))).cell? ⟨w.heap.size + 1 + 1, 2, none⟩ = some (.int .i64 6) := by rw [blk_cell hXb2]; rfl
      have cb23 : (((W6.setCell ⟨w.heap.size + 1 + 1, 2, none⟩ (.int .i64 6)).setCell ⟨w.heap.size + 1 + 1, 1, none⟩ (.int .i64 o2)).setCell ⟨w.heap.size + 1 + 1, 3, none⟩ (.int .i64 (wrap64 (a0_3 + 1)))).cell? ⟨w.heap.size + 1 + 1, 3, none⟩ = some (.int .i64 (wrap64 (a0_3 + 1))) := by rw [blk_cell hXb2]; rfl
      have rb0 : (((W6.setCell ⟨w.heap.size + 1 + 1, 2, none⟩ (.int .i64 6)).setCell ⟨w.heap.size + 1 + 1, 1, none⟩ (.int .i64 o2)).setCell ⟨w.heap.size + 1 + 1, 3, none⟩ (.int .i64 (wrap64 (a0_3 + 1)))).cell? ⟨w.heap.size + 1, 0, none⟩ = some (.bool false) := by rw [blk_cell hRb2]; rfl
      have gb0 : (((W6.setCell ⟨w.heap.size + 1 + 1, 2, none⟩ (.int .i64 6)).setCell ⟨w.heap.size + 1 + 1, 1, none⟩ (.int .i64 o2)).setCell ⟨w.heap.size + 1 + 1, 3, none⟩ (.int .i64 (wrap64 (a0_3 + 1)))).frozen? ⟨w.heap.size + 1, 0, none⟩ = false := blk_frozen hRb2 0
      have rb1 : (((W6.setCell ⟨w.heap.size + 1 + 1, 2, none⟩ (.int .i64 6)).setCell ⟨w.heap.size + 1 + 1, 1, none⟩ (.int .i64 o2)).setCell ⟨w.heap.size + 1 + 1, 3, none⟩ (.int .i64 (wrap64 (a0_3 + 1)))).cell? ⟨w.heap.size + 1, 1, none⟩ = some (.int .i64 0) := by rw [blk_cell hRb2]; rfl
      have gb1 : (((W6.setCell ⟨w.heap.size + 1 + 1, 2, none⟩ (.int .i64 6)).setCell ⟨w.heap.size + 1 + 1, 1, none⟩ (.int .i64 o2)).setCell ⟨w.heap.size + 1 + 1, 3, none⟩ (.int .i64 (wrap64 (a0_3 + 1)))).frozen? ⟨w.heap.size + 1, 1, none⟩ = false := blk_frozen hRb2 1
      have rb2 : (((W6.setCell ⟨w.heap.size + 1 + 1, 2, none⟩ (.int .i64 6)).setCell ⟨w.heap.size + 1 + 1, 1, none⟩ (.int .i64 o2)).setCell ⟨w.heap.size + 1 + 1, 3, none⟩ (.int .i64 (wrap64 (a0_3 + 1)))).cell? ⟨w.heap.size + 1, 2, none⟩ = some (.int .i64 0) := by rw [blk_cell hRb2]; rfl
      have gb2 : (((W6.setCell ⟨w.heap.size + 1 + 1, 2, none⟩ (.int .i64 6)).setCell ⟨w.heap.size + 1 + 1, 1, none⟩ (.int .i64 o2)).setCell ⟨w.heap.size + 1 + 1, 3, none⟩ (.int .i64 (wrap64 (a0_3 + 1)))).frozen? ⟨w.heap.size + 1, 2, none⟩ = false := blk_frozen hRb2 2
      have rb3 : (((W6.setCell ⟨w.heap.size + 1 + 1, 2, none⟩ (.int .i64 6)).setCell ⟨w.heap.size + 1 + 1, 1, none⟩ (.int .i64 o2)).setCell ⟨w.heap.size + 1 + 1, 3, none⟩ (.int .i64 (wrap64 (a0_3 + 1)))).cell? ⟨w.heap.size + 1, 3, none⟩ = some (.int .i64 0) := by rw [blk_cell hRb2]; rfl
      have gb3 : (((W6.setCell ⟨w.heap.size + 1 + 1, 2, none⟩ (.int .i64 6)).setCell ⟨w.heap.size + 1 + 1, 1, none⟩ (.int .i64 o2)).setCell ⟨w.heap.size + 1 + 1, 3, none⟩ (.int .i64 (wrap64 (a0_3 + 1)))).frozen? ⟨w.heap.size + 1, 3, none⟩ = false := blk_frozen hRb2 3
      go_wp2_with fail
      go_region
      go_wp2_with fail
      have h1 := Option.some.inj h
      clear h
      obtain ⟨rfl, h2⟩ := Prod.mk.inj h1
      obtain ⟨rfl, h3⟩ := Prod.mk.inj h2
      obtain ⟨rfl, h4⟩ := Prod.mk.inj h3
      obtain ⟨rfl, h5⟩ := Prod.mk.inj h4
      obtain ⟨rfl, rfl⟩ := Prod.mk.inj h5
      refine bodyPost_ret (results_ctt rfl _ _ (w.heap.size + 1) 24 #[.bool a0_0, .int .i64 o2, .int .i64 6, .int .i64 (wrap64 (a0_3 + 1))] (0, 0) _ rfl (blk_drew (blk_put (cs := #[.bool a0_0, .int .i64 o2, .int .i64 6, .int .i64 0]) (blk_put (cs := #[.bool a0_0, .int .i64 o2, .int .i64 0, .int .i64 0]) (blk_put (cs := #[.bool a0_0, .int .i64 0, .int .i64 0, .int .i64 0]) (blk_put (cs := #[.bool false, .int .i64 0, .int .i64 0, .int .i64 0]) hRb2 0 _ rfl) 1 _ rfl) 2 _ rfl) 3 _ rfl)) Try.underlying24 rfl (by kernel_rfl)) rfl ?_
      exact ⟨_, rfl, Kd.R_nil _ _ _ _ _, below_drew1 (((((((HB6.out.setCell (p := ⟨w.heap.size + 1 + 1, 2, none⟩) (by show w.heap.size ≤ w.heap.size + 1 + 1; omega) _).setCell (p := ⟨w.heap.size + 1 + 1, 1, none⟩) (by show w.heap.size ≤ w.heap.size + 1 + 1; omega) _).setCell (p := ⟨w.heap.size + 1 + 1, 3, none⟩) (by show w.heap.size ≤ w.heap.size + 1 + 1; omega) _).setCell (p := ⟨w.heap.size + 1, 0, none⟩) (by show w.heap.size ≤ w.heap.size + 1; omega) _).setCell (p := ⟨w.heap.size + 1, 1, none⟩) (by show w.heap.size ≤ w.heap.size + 1; omega) _).setCell (p := ⟨w.heap.size + 1, 2, none⟩) (by show w.heap.size ≤ w.heap.size + 1; omega) _).setCell (p := ⟨w.heap.size + 1, 3, none⟩) (by show w.heap.size ≤ w.heap.size + 1; omega) _)⟩
    rw [if_neg (fun e => e.elim d3 d6)] at h
    by_cases d5 : q1 = 5
    · subst d5
      rw [if_pos rfl] at h
      have fd0 : W6.frozen? ⟨w.heap.size + 1 + 1, 2, none⟩ = false := blk_frozen hX6 2
      have hXd0 : (W6.setCell ⟨w.heap.size + 1 + 1, 2, none⟩ (.int .i64 5)).heap[w.heap.size + 1 + 1]? = some (.cells #[.bool a0_0, .int .i64 a0_1, .int .i64 5, .int .i64 a0_3] 50 (0, 0)) := blk_put hX6 2 _ rfl
      have hRd0 := blk_far hR6 (p := ⟨w.heap.size + 1 + 1, 2, none⟩) (by show w.heap.size + 1 ≠ w.heap.size + 1 + 1; omega) (.int .i64 5)
      have cd00 : (W6.setCell ⟨w.heap.size + 1 + 1, 2, none⟩ (.int .i64 5)).cell? ⟨w.heap.size + 1 + 1, 0, none⟩ = some (.bool a0_0) := by rw [blk_cell hXd0]; rfl
      have cd01 : (W6.setCell ⟨w.heap.size + 1 + 1, 2, none⟩ (.int .i64 5)).cell? ⟨w.heap.size + 1 + 1, 1, none⟩ = some (.int .i64 a0_1) := by rw [blk_cell hXd0]; rfl
      have cd02 : (W6.setCell ⟨w.heap.size + 1 + 1, 2, none⟩ (.int .i64 5)).cell? ⟨w.heap.size + 1 + 1, 2, none⟩ = some (.int .i64 5) := by rw [blk_cell hXd0]; rfl
      have cd03 : (W6.setCell ⟨w.heap.size + 1 + 1, 2, none⟩ (.int .i64 5)).cell? ⟨w.heap.size + 1 + 1, 3, none⟩ = some (.int .i64 a0_3) := by rw [blk_cell hXd0]; rfl
      have fd1 : (W6.setCell ⟨w.heap.size + 1 + 1, 2, none⟩ (.int .i64 5)).frozen? ⟨w.heap.size + 1 + 1, 3, none⟩ = false := blk_frozen hXd0 3
      have hXd1 : ((W6.setCell ⟨w.heap.size + 1 + 1, 2, none⟩ (.int .i64 5)).setCell ⟨w.heap.size + 1 + 1, 3, none⟩ (.int .i64 (wrap64 (a0_3 + 1)))).heap[w.heap.size + 1 + 1]? = some (.cells #[.bool a0_0, .int .i64 a0_1, .int .i64 5, .int .i64 (wrap64 (a0_3 + 1))] 50 (0, 0)) := blk_put hXd0 3 _ rfl
      have hRd1 := blk_far hRd0 (p := ⟨w.heap.size + 1 + 1, 3, none⟩) (by show w.heap.size + 1 ≠ w.heap.size + 1 + 1; omega) (.int .i64 (wrap64 (a0_3 + 1)))
      have cd10 : ((W6.setCell ⟨w.heap.size + 1 + 1, 2, none⟩ (.int .i64 5)).setCell ⟨w.heap.size + 1 + 1, 3, none⟩ (.int .i64 (wrap64 (a0_3 + 1)))).cell? ⟨w.heap.size + 1 + 1, 0, none⟩ = some (.bool a0_0) := by rw [blk_cell hXd1]; rfl
      have cd11 : ((W6.setCell ⟨w.heap.size + 1 + 1, 2, none⟩ (.int .i64 5)).setCell ⟨w.heap.size + 1 + 1, 3, none⟩ (.int .i64 (wrap64 (a0_3 + 1)))).cell? ⟨w.heap.size + 1 + 1, 1, none⟩ = some (.int .i64 a0_1) := by rw [blk_cell hXd1]; rfl
      have cd12 : ((W6.setCell ⟨w.heap.size + 1 + 1, 2, none⟩ (.int .i64 5)).setCell ⟨w.heap.size + 1 + 1, 3, none⟩ (.int .i64 (wrap64 (a0_3 + 1)))).cell? ⟨w.heap.size + 1 + 1, 2, none⟩ = some (.int .i64 5) := by rw [blk_cell hXd1]; rfl
      have cd13 : ((W6.setCell ⟨w.heap.size + 1 + 1, 2, none⟩ (.int .i64 5)).setCell ⟨w.heap.size + 1 + 1, 3, none⟩ (.int .i64 (wrap64 (a0_3 + 1)))).cell? ⟨w.heap.size + 1 + 1, 3, none⟩ = some (.int .i64 (wrap64 (a0_3 + 1))) := by rw [blk_cell hXd1]; rfl
      have rd0 : ((W6.setCell ⟨w.heap.size + 1 + 1, 2, none⟩ (.int .i64 5)).setCell ⟨w.heap.size + 1 + 1, 3, none⟩ (.int .i64 (wrap64 (a0_3 + 1)))).cell? ⟨w.heap.size + 1, 0, none⟩ = some (.bool false) := by rw [blk_cell hRd1]; rfl
      have gd0 : ((W6.setCell ⟨w.heap.size + 1 + 1, 2, none⟩ (.int .i64 5)).setCell ⟨w.heap.size + 1 + 1, 3, none⟩ (.int .i64 (wrap64 (a0_3 + 1)))).frozen? ⟨w.heap.size + 1, 0, none⟩ = false := blk_frozen hRd1 0
      have rd1 : ((W6.setCell ⟨w.heap.size + 1 + 1, 2, none⟩ (.int .i64 5)).setCell ⟨w.heap.size + 1 + 1, 3, none⟩ (.int .i64 (wrap64 (a0_3 + 1)))).cell? ⟨w.heap.size + 1, 1, none⟩ = some (.int .i64 0) := by rw [blk_cell hRd1]; rfl
      have gd1 : ((W6.setCell ⟨w.heap.size + 1 + 1, 2, none⟩ (.int .i64 5)).setCell ⟨w.heap.size + 1 + 1, 3, none⟩ (.int .i64 (wrap64 (a0_3 + 1)))).frozen? ⟨w.heap.size + 1, 1, none⟩ = false := blk_frozen hRd1 1
      have rd2 : ((W6.setCell ⟨w.heap.size + 1 + 1, 2, none⟩ (.int .i64 5)).setCell ⟨w.heap.size + 1 + 1, 3, none⟩ (.int .i64 (wrap64 (a0_3 + 1)))).cell? ⟨w.heap.size + 1, 2, none⟩ = some (.int .i64 0) := by rw [blk_cell hRd1]; rfl
      have gd2 : ((W6.setCell ⟨w.heap.size + 1 + 1, 2, none⟩ (.int .i64 5)).setCell ⟨w.heap.size + 1 + 1, 3, none⟩ (.int .i64 (wrap64 (a0_3 + 1)))).frozen? ⟨w.heap.size + 1, 2, none⟩ = false := blk_frozen hRd1 2
      have rd3 : ((W6.setCell ⟨w.heap.size + 1 + 1, 2, none⟩ (.int .i64 5)).setCell ⟨w.heap.size + 1 + 1, 3, none⟩ (.int .i64 (wrap64 (a0_3 + 1)))).cell? ⟨w.heap.size + 1, 3, none⟩ = some (.int .i64 0) := by rw [blk_cell hRd1]; rfl
      have gd3 : ((W6.setCell ⟨w.heap.size + 1 + 1, 2, none⟩ (.int .i64 5)).setCell ⟨w.heap.size + 1 + 1, 3, none⟩ (.int .i64 (wrap64 (a0_3 + 1)))).frozen? ⟨w.heap.size + 1, 3, none⟩ = false := blk_frozen hRd1 3
      go_wp2_with fail
      go_region
      go_wp2_with fail
      have h1 := Option.some.inj h
      clear h
      obtain ⟨rfl, h2⟩ := Prod.mk.inj h1
      obtain ⟨rfl, h3⟩ := Prod.mk.inj h2
      obtain ⟨rfl, h4⟩ := Prod.mk.inj h3
      obtain ⟨rfl, h5⟩ := Prod.mk.inj h4
      obtain ⟨rfl, rfl⟩ := Prod.mk.inj h5
      refine bodyPost_ret (results_ctt rfl _ _ (w.heap.size + 1) 24 #[.bool a0_0, .int .i64 a0_1, .int .i64 5, .int .i64 (wrap64 (a0_3 + 1))] (0, 0) _ rfl (blk_drew (blk_put (cs := #[.bool a0_0, .int .i64 a0_1, .int .i64 5, .int .i64 0]) (blk_put (cs := #[.bool a0_0, .int .i64 a0_1, .int .i64 0, .int .i64 0]) (blk_put (cs := #[.bool a0_0, .int .i64 0, .int .i64 0, .int .i64 0]) (blk_put (cs := #[.bool false, .int .i64 0, .int .i64 0, .int .i64 0]) hRd1 0 _ rfl) 1 _ rfl) 2 _ rfl) 3 _ rfl)) Try.underlying24 rfl (by kernel_rfl)) rfl ?_
      exact ⟨_, rfl, Kd.R_nil _ _ _ _ _, below_drew1 ((((((HB6.out.setCell (p := ⟨w.heap.size + 1 + 1, 2, none⟩) (by show w.heap.size ≤ w.heap.size + 1 + 1; omega) _).setCell (p := ⟨w.heap.size + 1 + 1, 3, none⟩) (by show w.heap.size ≤ w.heap.size + 1 + 1; omega) _).setCell (p := ⟨w.heap.size + 1, 0, none⟩) (by show w.heap.size ≤ w.heap.size + 1; omega) _).setCell (p := ⟨w.heap.size + 1, 1, none⟩) (by show w.heap.size ≤ w.heap.size + 1; omega) _).setCell (p := ⟨w.heap.size + 1, 2, none⟩) (by show w.heap.size ≤ w.heap.size + 1; omega) _).setCell (p := ⟨w.heap.size + 1, 3, none⟩) (by show w.heap.size ≤ w.heap.size + 1; omega) _)⟩
    rw [if_neg d5] at h
    have b3 : (q1 == 3) = false := beq_eq_false_iff_ne.mpr d3
    have b6 : (q1 == 6) = false := beq_eq_false_iff_ne.mpr d6
    have b5 : (q1 == 5) = false := beq_eq_false_iff_ne.mpr d5
    have fe0 : W6.frozen? ⟨w.heap.size + 1 + 1, 2, none⟩ = false := blk_frozen hX6 2
    have hXe0 : (W6.setCell ⟨w.heap.size + 1 + 1, 2, none⟩ (.int .i64 q1)).heap[w.heap.size + 1 + 1]? = some (.cells #[.bool a0_0, .int .i64 a0_1, .int .i64 q1, .int .i64 a0_3] 50 (0, 0)) := blk_put hX6 2 _ rfl
    have hRe0 := blk_far hR6 (p := ⟨w.heap.size + 1 + 1, 2, none⟩) (by show w.heap.size + 1 ≠ w.heap.size + 1 + 1; omega) (.int .i64 q1)
    have ce00 : (W6.setCell ⟨w.heap.size + 1 + 1, 2, none⟩ (.int .i64 q1)).cell? ⟨w.heap.size + 1 + 1, 0, none⟩ = some (.bool a0_0) := by rw [blk_cell hXe0]; rfl
    have ce01 : (W6.setCell ⟨w.heap.size + 1 + 1, 2, none⟩ (.int .i64 q1)).cell? ⟨w.heap.size + 1 + 1, 1, none⟩ = some (.int .i64 a0_1) := by rw [blk_cell hXe0]; rfl
    have ce02 : (W6.setCell ⟨w.heap.size + 1 + 1, 2, none⟩ (.int .i64 q1)).cell? ⟨w.heap.size + 1 + 1, 2, none⟩ = some (.int .i64 q1) := by rw [blk_cell hXe0]; rfl
    have ce03 : (W6.setCell ⟨w.heap.size + 1 + 1, 2, none⟩ (.int .i64 q1)).cell? ⟨w.heap.size + 1 + 1, 3, none⟩ = some (.int .i64 a0_3) := by rw [blk_cell hXe0]; rfl
    have fe1 : (W6.setCell ⟨w.heap.size + 1 + 1, 2, none⟩ (.int .i64 q1)).frozen? ⟨w.heap.size + 1 + 1, 0, none⟩ = false := blk_frozen hXe0 0
    have hXe1 : ((W6.setCell ⟨w.heap.size + 1 + 1, 2, none⟩ (.int .i64 q1)).setCell ⟨w.heap.size + 1 + 1, 0, none⟩ (.bool true)).heap[w.heap.size + 1 + 1]? = some (.cells #[.bool true, .int .i64 a0_1, .int .i64 q1, .int .i64 a0_3] 50 (0, 0)) := blk_put hXe0 0 _ rfl
    have hRe1 := blk_far hRe0 (p := ⟨w.heap.size + 1 + 1, 0, none⟩) (by show w.heap.size + 1 ≠ w.heap.size + 1 + 1; omega) (.bool true)
    have ce10 : ((W6.setCell ⟨w.heap.size + 1 + 1, 2, none⟩ (.int .i64 q1)).setCell ⟨w.heap.size + 1 + 1, 0, none⟩ (.bool true)).cell? ⟨w.heap.size + 1 + 1, 0, none⟩ = some (.bool true) := by rw [blk_cell hXe1]; rfl
    have ce11 : ((W6.setCell ⟨w.heap.size + 1 + 1, 2, none⟩ (.int .i64 q1)).setCell ⟨w.heap.size + 1 + 1, 0, none⟩ (.bool true)).cell? ⟨w.heap.size + 1 + 1, 1, none⟩ = some (.int .i64 a0_1) := by rw [blk_cell hXe1]; rfl
    have ce12 : ((W6.setCell ⟨w.heap.size + 1 + 1, 2, none⟩ (.int .i64 q1)).setCell ⟨w.heap.size + 1 + 1, 0, none⟩ (.bool true)).cell? ⟨w.heap.size + 1 + 1, 2, none⟩ = some (.int .i64 q1) := by rw [blk_cell hXe1]; rfl
    have ce13 : ((W6.setCell ⟨w.heap.size + 1 + 1, 2, none⟩ (.int .i64 q1)).setCell ⟨w.heap.size + 1 + 1, 0, none⟩ (.bool true)).cell? ⟨w.heap.size + 1 + 1, 3, none⟩ = some (.int .i64 a0_3) := by rw [blk_cell hXe1]; rfl
    have fe2 : ((W6.setCell ⟨w.heap.size + 1 + 1, 2, none⟩ (.int .i64 q1)).setCell ⟨w.heap.size + 1 + 1, 0, none⟩ (.bool true)).frozen? ⟨w.heap.size + 1 + 1, 1, none⟩ = false := blk_frozen hXe1 1
    have hXe2 : (((W6.setCell ⟨w.heap.size + 1 + 1, 2, none⟩ (.int .i64 q1)).setCell ⟨w.heap.size + 1 + 1, 0, none⟩ (.bool true)).setCell ⟨w.heap.size + 1 + 1, 1, none⟩ (.int .i64 o2)).heap[w.heap.size + 1 + 1]? = some (.cells #[.bool true, .int .i64 o2, .int .i64 q1, .int .i64 a0_3] 50 (0, 0)) := blk_put hXe1 1 _ rfl
    have hRe2 := blk_far hRe1 (p := ⟨w.heap.size + 1 + 1, 1, none⟩) (by show w.heap.size + 1 ≠ w.heap.size + 1 + 1; omega) (.int .i64 o2)
    have ce20 : (((W6.setCell ⟨w.heap.size + 1 + 1, 2, none⟩ (.int .i64 q1)).setCell ⟨w.heap.size + 1 + 1, 0, none⟩ (.bool true)).setCell ⟨w.heap.size + 1 + 1, 1, none⟩ (.int .i64 o2)).cell? ⟨w.heap.size + 1 + 1, 0, none⟩ = some (.bool true) := by rw [blk_cell hXe2]; rfl
    have ce21 : (((W6.setCell ⟨w.heap.size + 1 + 1, 2, none⟩ (.int .i64 q1)).setCell ⟨w.heap.size + 1 + 1, 0, none⟩ (.bool true)).setCell ⟨w.heap.size + 1 + 1, 1, none⟩ (.int .i64 o2)).cell? ⟨w.heap.size + 1 + 1, 1, none⟩ = some (.int .i64 o2) := by rw [blk_cell hXe2]; rfl
    have ce22 : (((W6.setCell ⟨w.heap.size + 1 + 1, 2, none⟩ (.int .i64 q1)).setCell ⟨w.heap.size + 1 + 1, 0, none⟩ (.bool true)).setCell ⟨w.heap.size + 1 + 1, 1, none⟩ (.int .i64 o2)).cell? ⟨w.heap.size + 1 + 1, 2, none⟩ = some (.int .i64 q1) := by rw [blk_cell hXe2]; rfl
    have ce23 : (((W6.setCell ⟨w.heap.size + 1 + 1, 2, none⟩ (.int .i64 q1)).setCell ⟨w.heap.size + 1 + 1, 0, none⟩ (.bool true)).setCell ⟨w.heap.size + 1 + 1, 1, none⟩ (.int .i64 o2)).cell? ⟨w.heap.size + 1 + 1, 3, none⟩ = some (.int .i64 a0_3) := by rw [blk_cell hXe2]; rfl
    have fe3 : (((W6.setCell ⟨w.heap.size + 1 + 1, 2, none⟩ (.int .i64 q1)).setCell ⟨w.heap.size + 1 + 1, 0, none⟩ (.bool true)).setCell ⟨w.heap.size + 1 + 1, 1, none⟩ (.int .i64 o2)).frozen? ⟨w.heap.size + 1 + 1, 3, none⟩ = false := blk_frozen hXe2 3
    have hXe3 : ((((W6.setCell ⟨w.heap.size + 1 + 1, 2, none⟩ (.int .i64 q1)).setCell ⟨w.heap.size + 1 + 1, 0, none⟩ (.bool true)).setCell ⟨w.heap.size + 1 + 1, 1, none⟩ (.int .i64 o2)).setCell ⟨w.heap.size + 1 + 1, 3, none⟩ (.int .i64 0)).heap[w.heap.size + 1 + 1]? = some (.cells #[.bool true, .int .i64 o2, .int .i64 q1, .int .i64 0] 50 (0, 0)) := blk_put hXe2 3 _ rfl
    have hRe3 := blk_far hRe2 (p := ⟨w.heap.size + 1 + 1, 3, none⟩) (by show w.heap.size + 1 ≠ w.heap.size + 1 + 1; omega) (.int .i64 0)
    have ce30 : ((((W6.setCell ⟨w.heap.size + 1 + 1, 2, none⟩ (.int .i64 q1)).setCell ⟨w.heap.size + 1 + 1, 0, none⟩ (.bool true)).setCell ⟨w.heap.size + 1 + 1, 1, none⟩ (.int .i64 o2)).setCell ⟨w.heap.size + 1 + 1, 3, none⟩ (.int .i64 0)).cell? ⟨w.heap.size + 1 + 1, 0, none⟩ = some (.bool true) := by rw [blk_cell hXe3]; rfl
    have ce31 : ((((W6.setCell ⟨w.heap.size + 1 + 1, 2, none⟩ (.int .i64 q1)).setCell ⟨w.heap.size + 1 + 1, 0, none⟩ (.bool true)).setCell ⟨w.heap.size + 1 + 1, 1, none⟩ (.int .i64 o2)).setCell ⟨w.heap.size + 1 + 1, 3, none⟩ (.int .i64 0)).cell? ⟨w.heap.size + 1 + 1, 1, none⟩ = some (.int .i64 o2) := by rw [blk_cell hXe3]; rfl
    have ce32 : ((((W6.setCell ⟨w.heap.size + 1 + 1, 2, none⟩ (.int .i64 q1)).setCell ⟨w.heap.size + 1 + 1, 0, none⟩ (.bool true)).setCell ⟨w.heap.size + 1 + 1, 1, none⟩ (.int .i64 o2)).setCell ⟨w.heap.size + 1 + 1, 3, none⟩ (.int .i64 0)).cell? ⟨w.heap.size + 1 + 1, 2, none⟩ = some (.int .i64 q1) := by rw [blk_cell hXe3]; rfl
    have ce33 : ((((W6.setCell ⟨w.heap.size + 1 + 1, 2, none⟩ (.int .i64 q1)).setCell ⟨w.heap.size + 1 + 1, 0, none⟩ (.bool true)).setCell ⟨w.heap.size + 1 + 1, 1, none⟩ (.int .i64 o2)).setCell ⟨w.heap.size + 1 + 1, 3, none⟩ (.int .i64 0)).cell? ⟨w.heap.size + 1 + 1, 3, none⟩ = some (.int .i64 0) := by rw [blk_cell hXe3]; rfl
    have re0 : ((((W6.setCell ⟨w.heap.size + 1 + 1, 2, none⟩ (.int .i64 q1)).setCell ⟨w.heap.size + 1 + 1, 0, none⟩ (.bool true)).setCell ⟨w.heap.size + 1 + 1, 1, none⟩ (.int .i64 o2)).setCell ⟨w.heap.size + 1 + 1, 3, none⟩ (.int .i64 0)).cell? ⟨w.heap.size + 1, 0, none⟩ = some (.bool false) := by rw [blk_cell hRe3]; rfl
    have ge0 : ((((W6.setCell ⟨w.heap.size + 1 + 1, 2, none⟩ (.int .i64 q1)).setCell ⟨w.heap.size + 1 + 1, 0, none⟩ (.bool true)).setCell ⟨w.heap.size + 1 + 1, 1, none⟩ (.int .i64 o2)).setCell ⟨w.heap.size + 1 + 1, 3, none⟩ (.int .i64 0)).frozen? ⟨w.heap.size + 1, 0, none⟩ = false := blk_frozen hRe3 0
    have re1 : ((((W6.setCell ⟨w.heap.size + 1 + 1, 2, none⟩ (.int .i64 q1)).setCell ⟨w.heap.size + 1 + 1, 0, none⟩ (.bool true)).setCell ⟨w.heap.size + 1 + 1, 1, none⟩ (.int .i64 o2)).setCell ⟨w.heap.size + 1 + 1, 3, none⟩ (.int .i64 0)).cell? ⟨w.heap.size + 1, 1, none⟩ = some (.int .i64 0) := by rw [blk_cell hRe3]; rfl
    have ge1 : ((((W6.setCell ⟨w.heap.size + 1 + 1, 2, none⟩ (.int .i64 q1)).setCell ⟨w.heap.size + 1 + 1, 0, none⟩ (.bool true)).setCell ⟨w.heap.size + 1 + 1, 1, none⟩ (.int .i64 o2)).setCell ⟨w.heap.size + 1 + 1, 3, none⟩ (.int .i64 0)).frozen? ⟨w.heap.size + 1, 1, none⟩ = false := blk_frozen hRe3 1
    have re2 : ((((W6.setCell ⟨w.heap.size + 1 + 1, 2, none⟩ (.int .i64 q1)).setCell ⟨w.heap.size + 1 + 1, 0, none⟩ (.bool true)).setCell ⟨w.heap.size + 1 + 1, 1, none⟩ (.int .i64 o2)).setCell ⟨w.heap.size + 1 + 1, 3, none⟩ (.int .i64 0)).cell? ⟨w.heap.size + 1, 2, none⟩ = some (.int .i64 0) := by rw [blk_cell hRe3]; rfl
    have ge2 : ((((W6.setCell ⟨w.heap.size + 1 + 1, 2, none⟩ (.int .i64 q1)).setCell ⟨w.heap.size + 1 + 1, 0, none⟩ (.bool true)).setCell ⟨w.heap.size + 1 + 1, 1, none⟩ (.int .i64 o2)).setCell ⟨w.heap.size + 1 + 1, 3, none⟩ (.int .i64 0)).frozen? ⟨w.heap.size + 1, 2, none⟩ = false := blk_frozen hRe3 2
    have re3 : ((((W6.setCell ⟨w.heap.size + 1 + 1, 2, none⟩ (.int .i64 q1)).setCell ⟨w.heap.size + 1 + 1, 0, none⟩ (.bool true)).setCell ⟨w.heap.size + 1 + 1, 1, none⟩ (.int .i64 o2)).setCell ⟨w.heap.size + 1 + 1, 3, none⟩ (.int .i64 0)).cell? ⟨w.heap.size + 1, 3, none⟩ = some (.int .i64 0) := by rw [blk_cell hRe3]; rfl
    have ge3 : ((((W6.setCell ⟨w.heap.size + 1 + 1, 2, none⟩ (.int .i64 q1)).setCell ⟨w.heap.size + 1 + 1, 0, none⟩ (.bool true)).setCell ⟨w.heap.size + 1 + 1, 1, none⟩ (.int .i64 o2)).setCell ⟨w.heap.size + 1 + 1, 3, none⟩ (.int .i64 0)).frozen? ⟨w.heap.size + 1, 3, none⟩ = false := blk_frozen hRe3 3
    go_wp2_with fail
    go_region
    go_wp2_with fail
    have h1 := Option.some.inj h
    clear h
    obtain ⟨rfl, h2⟩ := Prod.mk.inj h1
    obtain ⟨rfl, h3⟩ := Prod.mk.inj h2
    obtain ⟨rfl, h4⟩ := Prod.mk.inj h3
    obtain ⟨rfl, h5⟩ := Prod.mk.inj h4
    obtain ⟨rfl, rfl⟩ := Prod.mk.inj h5
    refine bodyPost_ret (results_ctt rfl _ _ (w.heap.size + 1) 24 #[.bool true, .int .i64 o2, .int .i64 q1, .int .i64 0] (0, 0) _ rfl (blk_drew (blk_put (cs := #[.bool true, .int .i64 o2, .int .i64 q1, .int .i64 0]) (blk_put (cs := #[.bool true, .int .i64 o2, .int .i64 0, .int .i64 0]) (blk_put (cs := #[.bool true, .int .i64 0, .int .i64 0, .int .i64 0]) (blk_put (cs := #[.bool false, .int .i64 0, .int .i64 0, .int .i64 0]) hRe3 0 _ rfl) 1 _ rfl) 2 _ rfl) 3 _ rfl)) Try.underlying24 rfl (by kernel_rfl)) rfl ?_
    refine ⟨_, rfl, ?_, below_drew1 ((((((((HB6.out.setCell (p := ⟨w.heap.size + 1 + 1, 2, none⟩) (by show w.heap.size ≤ w.heap.size + 1 + 1; omega) _).setCell (p := ⟨w.heap.size + 1 + 1, 0, none⟩) (by show w.heap.size ≤ w.heap.size + 1 + 1; omega) _).setCell (p := ⟨w.heap.size + 1 + 1, 1, none⟩) (by show w.heap.size ≤ w.heap.size + 1 + 1; omega) _).setCell (p := ⟨w.heap.size + 1 + 1, 3, none⟩) (by show w.heap.size ≤ w.heap.size + 1 + 1; omega) _).setCell (p := ⟨w.heap.size + 1, 0, none⟩) (by show w.heap.size ≤ w.heap.size + 1; omega) _).setCell (p := ⟨w.heap.size + 1, 1, none⟩) (by show w.heap.size ≤ w.heap.size + 1; omega) _).setCell (p := ⟨w.heap.size + 1, 2, none⟩) (by show w.heap.size ≤ w.heap.size + 1; omega) _).setCell (p := ⟨w.heap.size + 1, 3, none⟩) (by show w.heap.size ≤ w.heap.size + 1; omega) _)⟩
    exact Kd.R_mono (Kd.R_drew (Kd.R_lower (Kd.R_kept (S := fun k => k = w.heap.size + 1 ∨ k = w.heap.size + 1 + 1) (Kd.R_bound HO6.out) (((((((((Kept.refl W6 (fun k => k = w.heap.size + 1 ∨ k = w.heap.size + 1 + 1)).setCell (p := ⟨w.heap.size + 1 + 1, 2, none⟩) (.inl (.inr rfl)) _).setCell (p := ⟨w.heap.size + 1 + 1, 0, none⟩) (.inl (.inr rfl)) _).setCell (p := ⟨w.heap.size + 1 + 1, 1, none⟩) (.inl (.inr rfl)) _).setCell (p := ⟨w.heap.size + 1 + 1, 3, none⟩) (.inl (.inr rfl)) _).setCell (p := ⟨w.heap.size + 1, 0, none⟩) (.inl (.inl rfl)) _).setCell (p := ⟨w.heap.size + 1, 1, none⟩) (.inl (.inl rfl)) _).setCell (p := ⟨w.heap.size + 1, 2, none⟩) (.inl (.inl rfl)) _).setCell (p := ⟨w.heap.size + 1, 3, none⟩) (.inl (.inl rfl)) _) (fun k hk e => by have := hk.2.1; have := H3.out; omega)) (by have := H3.out; omega))) (fun _ _ => trivial)

/-! ### phaetonlaw16_head: function 10 -/
def phaetonlaw16_head.j0 : Nat → List Int → Bool → List Int → Bool → Bool → Option (Bool)
  | 0, _, _, _, _, _ => none
  | k + 1, x1, x2, x3, x6, x41 => if x41 = true then (none) else ((trust_Open.f 5 x1).bind fun bt144 => ((trust_Open.f 6 x1).bind fun bt149 => ((trust_New.f).bind fun bt154 => ((trust_Check.f bt154.1 bt154.2.1 bt154.2.2.1 bt154.2.2.2 5 x1 2).bind fun bt158 => ((trust_Check.f bt158.1 bt158.2.1 bt158.2.2.1 bt158.2.2.2.1 5 x3 2).bind fun bt167 => ((trust_Check.f bt167.1 bt167.2.1 bt167.2.2.1 bt167.2.2.2.1 5 x3 2).bind fun bt175 => (if x2 = true then (if x6 = true then (none) else (if 1 < (x1.length : Int) then (if (rd x1 1) = 1 then (if 2 < (x1.length : Int) then (if (rd x1 2) = 7 then ((phaetonref01_SameBytes.f bt144.1 (([7] : List Int))).bind fun t188 => (if t188 = true then (if bt144.2.1 = 1 then (if bt144.2.2 = true then (if bt149.2.2 = true then (none) else ((phaetonref01_SameBytes.f bt158.2.2.2.2.1 (([7] : List Int))).bind fun t192 => (if t192 = true then (if bt158.2.2.2.2.2 = 2 then ((phaetonref01_SameBytes.f bt167.2.2.2.2.1 (([8] : List Int))).bind fun t196 => (if t196 = true then (if bt167.2.2.2.2.2 = 4 then (if (bt175.2.2.2.2.1.length : Int) = 0 then (if bt175.2.2.2.2.2 = 3 then (if (bt175.1 && (bt175.2.1 == 3 && (bt175.2.2.1 == 3 && (bt175.2.2.2.1 == 1)))) = true then (some true) else (none)) else (none)) else (none)) else (none)) else (none))) else (none)) else (none)))) else (none)) else (none)) else (none))) else (none)) else (none)) else (none)) else (none))) else (none))))))))
def phaetonlaw16_head.f (k : Nat)  : Option (Bool) := (trust_Wrap.f 5 1 (([7] : List Int))).bind fun bt129 => ((trust_Wrap.f 5 3 (([8] : List Int))).bind fun bt136 => ((trust_Wrap.f 5 15 ([] : List Int)).bind fun bt140 => (if (bt129.1.length : Int) = 3 then (phaetonlaw16_head.j0 k bt129.1 bt129.2 bt136.1 bt140.2 ((bt136.1.length : Int) != 3)) else (phaetonlaw16_head.j0 k bt129.1 bt129.2 bt136.1 bt140.2 true))))
theorem phaetonlaw16_head.mono_l : ∀ k, (∀ y0 y1 y2 y3 y4, LeO (phaetonlaw16_head.j0 k y0 y1 y2 y3 y4) (phaetonlaw16_head.j0 (k + 1) y0 y1 y2 y3 y4))
  | 0 => fun _ _ _ _ _ r h => by simp [phaetonlaw16_head.j0] at h
  | k + 1 => by
    have ih0 := phaetonlaw16_head.mono_l k
    · intro y0 y1 y2 y3 y4
      unfold phaetonlaw16_head.j0
      repeat' first
      | (with_reducible exact ih0 _ _ _ _ _)
      | (with_reducible exact LeO.refl _)
      | (with_reducible exact LeO.none _)
      | (with_reducible refine LeO.ite ?_ ?_)
      | (with_reducible refine LeO.bind ?_ (fun _ => ?_))
      | exact ih0 _ _ _ _ _
      | exact LeO.none _
      | refine LeO.ite ?_ ?_
      | refine LeO.bind ?_ (fun _ => ?_)
theorem phaetonlaw16_head.mono : ∀ k, LeO (phaetonlaw16_head.f k ) (phaetonlaw16_head.f (k + 1) ) := by
  intro  k
  have ih0 := phaetonlaw16_head.mono_l k
  unfold phaetonlaw16_head.f
  repeat' first
      | (with_reducible exact ih0 _ _ _ _ _)
      | (with_reducible exact LeO.refl _)
      | (with_reducible exact LeO.none _)
      | (with_reducible refine LeO.ite ?_ ?_)
      | (with_reducible refine LeO.bind ?_ (fun _ => ?_))
      | exact ih0 _ _ _ _ _
      | exact LeO.none _
      | refine LeO.ite ?_ ?_
      | refine LeO.bind ?_ (fun _ => ?_)
set_option maxHeartbeats 8000000 in
set_option maxRecDepth 100000 in
theorem phaetonlaw16_head.calls (k : Nat)  (r : Bool) (w : World) (h : phaetonlaw16_head.f k  = some r) :
    Calls Try.prog 10 #[] w fun e w' => e = .returned (.bool r) ∧ Below w.heap.size w w' := by
  have hu24 := Try.underlying24
  have HB := Aside0.mk (Below.refl w.heap.size w)
  have H : ((trust_Wrap.f 5 1 (([7] : List Int))).bind fun bt129 => ((trust_Wrap.f 5 3 (([8] : List Int))).bind fun bt136 => ((trust_Wrap.f 5 15 ([] : List Int)).bind fun bt140 => (if (bt129.1.length : Int) = 3 then (phaetonlaw16_head.j0 k bt129.1 bt129.2 bt136.1 bt140.2 ((bt136.1.length : Int) != 3)) else (phaetonlaw16_head.j0 k bt129.1 bt129.2 bt136.1 bt140.2 true))))) = some r := h
  clear h
  obtain ⟨y126, hy126⟩ : ∃ y_ : List Int, y_ = (([7] : List Int)) := ⟨_, rfl⟩
  replace H : ((trust_Wrap.f 5 1 y126).bind fun bt129 => ((trust_Wrap.f 5 3 (([8] : List Int))).bind fun bt136 => ((trust_Wrap.f 5 15 ([] : List Int)).bind fun bt140 => (if (bt129.1.length : Int) = 3 then (phaetonlaw16_head.j0 k bt129.1 bt129.2 bt136.1 bt140.2 ((bt136.1.length : Int) != 3)) else (phaetonlaw16_head.j0 k bt129.1 bt129.2 bt136.1 bt140.2 true))))) = some r := by first | (rw [hy126]; with_reducible exact H) | (have H2_ := (Option.bind_some _ _).symm.trans H; rw [hy126]; with_reducible exact H2_) | (have H2_ := (Option.bind_some _ _).symm.trans H; with_reducible exact H2_) | with_reducible exact H | (rw [hy126]; exact H) | exact H
  have Ny126 := Aside0.mk hy126
  clear hy126
  replace H := Option.bind_eq_some_iff.mp H
  obtain ⟨⟨t129, t130⟩, A10, H⟩ := H
  replace H : ((trust_Wrap.f 5 3 (([8] : List Int))).bind fun bt136 => ((trust_Wrap.f 5 15 ([] : List Int)).bind fun bt140 => (if (t129.length : Int) = 3 then (phaetonlaw16_head.j0 k t129 t130 bt136.1 bt140.2 ((bt136.1.length : Int) != 3)) else (phaetonlaw16_head.j0 k t129 t130 bt136.1 bt140.2 true)))) = some r := H
  have A1 := Aside0.mk A10
  clear A10
  obtain ⟨y133, hy133⟩ : ∃ y_ : List Int, y_ = (([8] : List Int)) := ⟨_, rfl⟩
  replace H : ((trust_Wrap.f 5 3 y133).bind fun bt136 => ((trust_Wrap.f 5 15 ([] : List Int)).bind fun bt140 => (if (t129.length : Int) = 3 then (phaetonlaw16_head.j0 k t129 t130 bt136.1 bt140.2 ((bt136.1.length : Int) != 3)) else (phaetonlaw16_head.j0 k t129 t130 bt136.1 bt140.2 true)))) = some r := by first | (rw [hy133]; with_reducible exact H) | (have H2_ := (Option.bind_some _ _).symm.trans H; rw [hy133]; with_reducible exact H2_) | (have H2_ := (Option.bind_some _ _).symm.trans H; with_reducible exact H2_) | with_reducible exact H | (rw [hy133]; exact H) | exact H
  have Ny133 := Aside0.mk hy133
  clear hy133
  replace H := Option.bind_eq_some_iff.mp H
  obtain ⟨⟨t136, t137⟩, A20, H⟩ := H
  replace H : ((trust_Wrap.f 5 15 ([] : List Int)).bind fun bt140 => (if (t129.length : Int) = 3 then (phaetonlaw16_head.j0 k t129 t130 t136 bt140.2 ((t136.length : Int) != 3)) else (phaetonlaw16_head.j0 k t129 t130 t136 bt140.2 true))) = some r := H
  have A2 := Aside0.mk A20
  clear A20
  replace H := Option.bind_eq_some_iff.mp H
  obtain ⟨⟨t140, t141⟩, A30, H⟩ := H
  replace H : (if (t129.length : Int) = 3 then (phaetonlaw16_head.j0 k t129 t130 t136 t141 ((t136.length : Int) != 3)) else (phaetonlaw16_head.j0 k t129 t130 t136 t141 true)) = some r := H
  have A3 := Aside0.mk A30
  clear A30
  have HC4 := Aside0.mk H
  clear H
  go_enter Try.func10, Try.ntmps10
  (try simp only [List.append])
  go_upto_region 4 with (first | ((with_reducible refine gate_dst (N := 21) rfl ?_); (try (refine gate_guard (by rfl) ?_; dsimp only)); refine Kd.R_lit (Kd.int .u8) _ 5 ?hg (N := 21) ?hd (xs := ([7] : List Int)) (inner := [.int .u8 7]) (ok := fun _ => True) (okp := fun _ => True) ?hr ?hp (fun _ hk => hk) trivial (Below.refl _ _) (Nat.le_refl _) (by simp) ?_; (case hd => rfl); (case hg => rfl); (case hr => first | (go_simp; done) | (go_simp; rfl)); (case hp => exact (Reps.one (show Kd.M (Kd.int .u8) _ _ _ 7 [.int .u8 7] from rfl) (Reps.none _ _))); intro v127 w5 ho6 hb hg_ hnew_; clear hg_ hnew_; (first | rw [← Ny126.out] at ho6 | (simp only [Int.reduceToNat] at ho6; rw [← Ny126.out] at ho6)); have n0_ := Aside0.mk (Kd.R_lower ho6 (below_size (by repeat (first | (with_reducible first | exact HB.out | apply below_alloc | apply pw_below_drewN | apply below_drew1) | exact HB.out)))); have n1_ := Aside0.mk (below_step (by repeat (first | (with_reducible first | exact HB.out | apply below_alloc | apply pw_below_drewN | apply below_drew1) | exact HB.out)) hb); clear HB; have HO128 := n0_; have HB := n1_; clear n0_ n1_; clear hb ho6; obtain ⟨Ao7, co7, eo7⟩ := Kd.R_slice HO128.out; subst eo7) | ((with_reducible refine gate_callee (f := 11) rfl ?_); refine goesL_ (some 22) rfl rfl Try.func11 (by kernel_rfl) rfl #[.int .i64 5, .int .i64 1, .slice Ao7 y126.length co7] rfl (by (try simp only [List.map_toArray, List.map_cons, List.map_nil]); first | done | rfl | (simp only [List.length_drop, List.length_take]; rfl)) ?_; (with_reducible refine (trust_Wrap.calls 5 1 _ _ y126 t129 t130 _ ?side1 ?side2 A1.out).mono ?_); (case side1 => repeat (first | exact (Kd.R_reads' HO128.out).2.2 | (with_reducible refine Kd.C_alloc ?_ _) | (with_reducible refine Kd.C_drewN ?_ _) | (with_reducible refine Kd.C_drew ?_))); (case side2 => exact (Kd.R_reads' HO128.out).2.1); rintro e w8 ⟨v131, rfl, ho0, hb⟩; refine ⟨_, rfl, ?_⟩; have n0_ := Aside0.mk (Kd.R_elder' (by (with_reducible repeat (first | apply Kd.R_alloc | apply Kd.R_drewN | apply Kd.R_drew)); exact HO128.out) (Kd.R_base ho0) hb); have n1_ := Aside0.mk (Kd.R_lower (Kd.R_new' ho0 (Kd.R_lt (by (with_reducible repeat (first | apply Kd.R_alloc | apply Kd.R_drewN | apply Kd.R_drew)); exact HO128.out))) (below_size (by repeat (first | (with_reducible first | exact HB.out | apply below_alloc | apply pw_below_drewN | apply below_drew1) | exact HB.out)))); have n2_ := Aside0.mk (below_step (by repeat (first | (with_reducible first | exact HB.out | apply below_alloc | apply pw_below_drewN | apply below_drew1) | exact HB.out)) hb); clear HO128; clear HB; have HO128 := n0_; have HO132 := n1_; have HB := n2_; clear n0_ n1_ n2_; (try clear hb); (try clear hb2); (try clear hk); (try clear hi); (try clear ho0)) | ((with_reducible refine gate_dst (N := 26) rfl ?_); (try (refine gate_guard (by rfl) ?_; dsimp only)); refine Kd.R_lit (Kd.int .u8) _ 5 ?hg (N := 26) ?hd (xs := ([8] : List Int)) (inner := [.int .u8 8]) (ok := fun _ => True) (okp := fun _ => True) ?hr ?hp (fun _ hk => hk) trivial (Below.refl _ _) (Nat.le_refl _) (by simp) ?_; (case hd => rfl); (case hg => rfl); (case hr => first | (go_simp; done) | (go_simp; rfl)); (case hp => exact (Reps.one (show Kd.M (Kd.int .u8) _ _ _ 8 [.int .u8 8] from rfl) (Reps.none _ _))); intro v134 w9 ho10 hb hg_ hnew_; clear hg_ hnew_; (first | rw [← Ny133.out] at ho10 | (simp only [Int.reduceToNat] at ho10; rw [← Ny133.out] at ho10)); have n0_ := Aside0.mk (Kd.R_elder' (by (with_reducible repeat (first | apply Kd.R_alloc | apply Kd.R_drewN | apply Kd.R_drew)); exact HO128.out) (Kd.R_base ho10) hb); have n1_ := Aside0.mk (Kd.R_elder' (by (with_reducible repeat (first | apply Kd.R_alloc | apply Kd.R_drewN | apply Kd.R_drew)); exact HO132.out) (Kd.R_base ho10) hb); have n2_ := Aside0.mk (Kd.R_lower (Kd.R_new' (Kd.R_new' ho10 (Kd.R_lt (by (with_reducible repeat (first | apply Kd.R_alloc | apply Kd.R_drewN | apply Kd.R_drew)); exact HO128.out))) (Kd.R_lt (by (with_reducible repeat (first | apply Kd.R_alloc | apply Kd.R_drewN | apply Kd.R_drew)); exact HO132.out))) (below_size (by repeat (first | (with_reducible first | exact HB.out | apply below_alloc | apply pw_below_drewN | apply below_drew1) | exact HB.out)))); have n3_ := Aside0.mk (below_step (by repeat (first | (with_reducible first | exact HB.out | apply below_alloc | apply pw_below_drewN | apply below_drew1) | exact HB.out)) hb); clear HO128; clear HO132; clear HB; have HO128 := n0_; have HO132 := n1_; have HO135 := n2_; have HB := n3_; clear n0_ n1_ n2_ n3_; clear hb ho10; obtain ⟨Ao11, co11, eo11⟩ := Kd.R_slice HO135.out; subst eo11) | ((with_reducible refine gate_callee (f := 11) rfl ?_); refine goesL_ (some 27) rfl rfl Try.func11 (by kernel_rfl) rfl #[.int .i64 5, .int .i64 3, .slice Ao11 y133.length co11] rfl (by (try simp only [List.map_toArray, List.map_cons, List.map_nil]); first | done | rfl | (simp only [List.length_drop, List.length_take]; rfl)) ?_; (with_reducible refine (trust_Wrap.calls 5 3 _ _ y133 t136 t137 _ ?side1 ?side2 A2.out).mono ?_); (case side1 => repeat (first | exact (Kd.R_reads' HO135.out).2.2 | (with_reducible refine Kd.C_alloc ?_ _) | (with_reducible refine Kd.C_drewN ?_ _) | (with_reducible refine Kd.C_drew ?_))); (case side2 => exact (Kd.R_reads' HO135.out).2.1); rintro e w12 ⟨v138, rfl, ho0, hb⟩; refine ⟨_, rfl, ?_⟩; have n0_ := Aside0.mk (Kd.R_elder' (by (with_reducible repeat (first | apply Kd.R_alloc | apply Kd.R_drewN | apply Kd.R_drew)); exact HO128.out) (Kd.R_base ho0) hb); have n1_ := Aside0.mk (Kd.R_elder' (by (with_reducible repeat (first | apply Kd.R_alloc | apply Kd.R_drewN | apply Kd.R_drew)); exact HO132.out) (Kd.R_base ho0) hb); have n2_ := Aside0.mk (Kd.R_elder' (by (with_reducible repeat (first | apply Kd.R_alloc | apply Kd.R_drewN | apply Kd.R_drew)); exact HO135.out) (Kd.R_base ho0) hb); have n3_ := Aside0.mk (Kd.R_lower (Kd.R_new' (Kd.R_new' (Kd.R_new' ho0 (Kd.R_lt (by (with_reducible repeat (first | apply Kd.R_alloc | apply Kd.R_drewN | apply Kd.R_drew)); exact HO128.out))) (Kd.R_lt (by (with_reducible repeat (first | apply Kd.R_alloc | apply Kd.R_drewN | apply Kd.R_drew)); exact HO132.out))) (Kd.R_lt (by (with_reducible repeat (first | apply Kd.R_alloc | apply Kd.R_drewN | apply Kd.R_drew)); exact HO135.out))) (below_size (by repeat (first | (with_reducible first | exact HB.out | apply below_alloc | apply pw_below_drewN | apply below_drew1) | exact HB.out)))); have n4_ := Aside0.mk (below_step (by repeat (first | (with_reducible first | exact HB.out | apply below_alloc | apply pw_below_drewN | apply below_drew1) | exact HB.out)) hb); clear HO128; clear HO132; clear HO135; clear HB; have HO128 := n0_; have HO132 := n1_; have HO135 := n2_; have HO139 := n3_; have HB := n4_; clear n0_ n1_ n2_ n3_ n4_; (try clear hb); (try clear hb2); (try clear hk); (try clear hi); (try clear ho0)) | ((with_reducible refine gate_callee (f := 11) rfl ?_); refine goesL_ (some 31) rfl rfl Try.func11 (by kernel_rfl) rfl #[.int .i64 5, .int .i64 15, .slice none 0 0] rfl (by (try simp only [List.map_toArray, List.map_cons, List.map_nil]); first | done | rfl | (simp only [List.length_drop, List.length_take]; rfl)) ?_; (refine (trust_Wrap.calls 5 15 _ _ ([] : List Int) t140 t141 _ ?side1 ?side2 A3.out).mono ?_); (case side1 => exact Kd.C_nil _ _); (case side2 => exact Nat.le_refl _); rintro e w13 ⟨v142, rfl, ho0, hb⟩; refine ⟨_, rfl, ?_⟩; have n0_ := Aside0.mk (Kd.R_elder' (by (with_reducible repeat (first | apply Kd.R_alloc | apply Kd.R_drewN | apply Kd.R_drew)); exact HO128.out) (Kd.R_base ho0) hb); have n1_ := Aside0.mk (Kd.R_elder' (by (with_reducible repeat (first | apply Kd.R_alloc | apply Kd.R_drewN | apply Kd.R_drew)); exact HO132.out) (Kd.R_base ho0) hb); have n2_ := Aside0.mk (Kd.R_elder' (by (with_reducible repeat (first | apply Kd.R_alloc | apply Kd.R_drewN | apply Kd.R_drew)); exact HO135.out) (Kd.R_base ho0) hb); have n3_ := Aside0.mk (Kd.R_elder' (by (with_reducible repeat (first | apply Kd.R_alloc | apply Kd.R_drewN | apply Kd.R_drew)); exact HO139.out) (Kd.R_base ho0) hb); have n4_ := Aside0.mk (Kd.R_lower (Kd.R_new' (Kd.R_new' (Kd.R_new' (Kd.R_new' ho0 (Kd.R_lt (by (with_reducible repeat (first | apply Kd.R_alloc | apply Kd.R_drewN | apply Kd.R_drew)); exact HO128.out))) (Kd.R_lt (by (with_reducible repeat (first | apply Kd.R_alloc | apply Kd.R_drewN | apply Kd.R_drew)); exact HO132.out))) (Kd.R_lt (by (with_reducible repeat (first | apply Kd.R_alloc | apply Kd.R_drewN | apply Kd.R_drew)); exact HO135.out))) (Kd.R_lt (by (with_reducible repeat (first | apply Kd.R_alloc | apply Kd.R_drewN | apply Kd.R_drew)); exact HO139.out))) (below_size (by repeat (first | (with_reducible first | exact HB.out | apply below_alloc | apply pw_below_drewN | apply below_drew1) | exact HB.out)))); have n5_ := Aside0.mk (below_step (by repeat (first | (with_reducible first | exact HB.out | apply below_alloc | apply pw_below_drewN | apply below_drew1) | exact HB.out)) hb); clear HO128; clear HO132; clear HO135; clear HO139; clear HB; have HO128 := n0_; have HO132 := n1_; have HO135 := n2_; have HO139 := n3_; have HO143 := n4_; have HB := n5_; clear n0_ n1_ n2_ n3_ n4_ n5_; (try clear hb); (try clear hb2); (try clear hk); (try clear hi); (try clear ho0)))
  (try simp only [Act.put, List.setIfInBounds_toArray, List.set_cons_zero, List.set_cons_succ])
  go_cut [41] (fun v41 wc => ∃ (kq : Nat) (x41_3 : Bool), v41 = .bool x41_3 ∧ Aside0 (phaetonlaw16_head.j0 kq t129 t130 t136 t141 x41_3 = some r) ∧ Aside0 (kq ≤ k) ∧ Aside0 (Kd.R (Kd.int .u8) 5 wc w.heap.size (fun k_ => some k_ ≠ (v138 : Value).ownBlock) v131 t129) ∧ Aside0 (Kd.R (Kd.int .u8) 5 wc w.heap.size (fun k_ => some k_ ≠ (v131 : Value).ownBlock) v138 t136) ∧ Aside0 (Below w.heap.size w wc))
  case first =>
    have H := HC4.out
    clear HC4
    by_cases c14 : (t129.length : Int) = 3
    · rw [if_pos c14] at H
      have c14b0 : ((t129.length : Int) == 3) = true := beq_iff_eq.mpr c14
      have c14b1 : ((t129.length : Int) != 3) = false := bne_eq_false_iff_eq.mpr c14
      clear c14
      (first | rw [c14b0] | (simp only [i64_w, i32_w]; rw [c14b0]) | skip)
      have H' := Aside0.mk H
      clear H
      obtain ⟨Ao15, co15, eo15⟩ := Kd.R_slice HO132.out
      subst eo15
      obtain ⟨Ao16, co16, eo16⟩ := Kd.R_slice HO139.out
      subst eo16
      go_wp2
      go_meet
      case rel => exact ⟨_, (((t136.length : Int) != 3)), (by first | rfl | (simp; done) | (simp [*]; done)), H', ⟨by first | omega | exact Nat.le_refl _⟩, ⟨by (with_reducible repeat (first | apply Kd.R_alloc | apply Kd.R_drewN | apply Kd.R_drew)); exact Kd.R_mono HO132.out (fun _ hk => hk.1.2)⟩, ⟨by (with_reducible repeat (first | apply Kd.R_alloc | apply Kd.R_drewN | apply Kd.R_drew)); exact Kd.R_mono HO139.out (fun _ hk => hk.1.1.2)⟩, ⟨by repeat (first | (with_reducible first | exact HB.out | apply below_alloc | apply pw_below_drewN | apply below_drew1) | exact HB.out)⟩⟩
    · rw [if_neg c14] at H
      have c14b0 : ((t129.length : Int) == 3) = false := beq_eq_false_iff_ne.mpr c14
      have c14b1 : ((t129.length : Int) != 3) = true := bne_iff_ne.mpr c14
      (first | rw [c14b0] | (simp only [i64_w, i32_w]; rw [c14b0]) | skip)
      have H' := Aside0.mk H
      clear H
      obtain ⟨Ao17, co17, eo17⟩ := Kd.R_slice HO132.out
      subst eo17
      go_wp2
      go_meet
      case rel => exact ⟨_, (true), (by first | rfl | (simp; done) | (simp [*]; done)), H', ⟨by first | omega | exact Nat.le_refl _⟩, ⟨by (with_reducible repeat (first | apply Kd.R_alloc | apply Kd.R_drewN | apply Kd.R_drew)); exact Kd.R_mono HO132.out (fun _ hk => hk.1.2)⟩, ⟨by (with_reducible repeat (first | apply Kd.R_alloc | apply Kd.R_drewN | apply Kd.R_drew)); exact Kd.R_mono HO139.out (fun _ hk => hk.1.1.2)⟩, ⟨by repeat (first | (with_reducible first | exact HB.out | apply below_alloc | apply pw_below_drewN | apply below_drew1) | exact HB.out)⟩⟩
  case rest =>
    clear HC4
    try clear c1
    try clear p2
    try clear c10
    try clear c11
    try clear c14
    try clear c14b0
    try clear c14b1
    obtain ⟨kq, x41_3, rfl, HA, HJ3, HO_1, HO_3, HB⟩ := hcut
    cases kq with
    | zero => exact absurd HA.out (by simp [phaetonlaw16_head.j0])
    | succ kj3 =>
      have H := HA.out
      clear HA
      simp only [phaetonlaw16_head.j0] at H
      by_cases c18 : x41_3 = true
      · subst c18
        have H1 : (none) = some r := by rw [if_pos rfl] at H; exact H
        clear H
        have H := H1
        clear H1
        exact absurd H (by simp)
      · replace c18 := Bool.eq_false_iff.mpr c18
        subst c18
        have H1 : ((trust_Open.f 5 t129).bind fun bt144 => ((trust_Open.f 6 t129).bind fun bt149 => ((trust_New.f).bind fun bt154 => ((trust_Check.f bt154.1 bt154.2.1 bt154.2.2.1 bt154.2.2.2 5 t129 2).bind fun bt158 => ((trust_Check.f bt158.1 bt158.2.1 bt158.2.2.1 bt158.2.2.2.1 5 t136 2).bind fun bt167 => ((trust_Check.f bt167.1 bt167.2.1 bt167.2.2.1 bt167.2.2.2.1 5 t136 2).bind fun bt175 => (if t130 = true then (if t141 = true then (none) else (if 1 < (t129.length : Int) then (if (rd t129 1) = 1 then (if 2 < (t129.length : Int) then (if (rd t129 2) = 7 then ((phaetonref01_SameBytes.f bt144.1 (([7] : List Int))).bind fun t188 => (if t188 = true then (if bt144.2.1 = 1 then (if bt144.2.2 = true then (if bt149.2.2 = true then (none) else ((phaetonref01_SameBytes.f bt158.2.2.2.2.1 (([7] : List Int))).bind fun t192 => (if t192 = true then (if bt158.2.2.2.2.2 = 2 then ((phaetonref01_SameBytes.f bt167.2.2.2.2.1 (([8] : List Int))).bind fun t196 => (if t196 = true then (if bt167.2.2.2.2.2 = 4 then (if (bt175.2.2.2.2.1.length : Int) = 0 then (if bt175.2.2.2.2.2 = 3 then (if (bt175.1 && (bt175.2.1 == 3 && (bt175.2.2.1 == 3 && (bt175.2.2.2.1 == 1)))) = true then (some true) else (none)) else (none)) else (none)) else (none)) else (none))) else (none)) else (none)))) else (none)) else (none)) else (none))) else (none)) else (none)) else (none)) else (none))) else (none)))))))) = some r := by rw [if_neg (show ¬ (false = true) by decide)] at H; exact H
        clear H
        have H := H1
        clear H1
        replace H := Option.bind_eq_some_iff.mp H
        obtain ⟨⟨t144, t145, t146⟩, A190, H⟩ := H
        replace H : ((trust_Open.f 6 t129).bind fun bt149 => ((trust_New.f).bind fun bt154 => ((trust_Check.f bt154.1 bt154.2.1 bt154.2.2.1 bt154.2.2.2 5 t129 2).bind fun bt158 => ((trust_Check.f bt158.1 bt158.2.1 bt158.2.2.1 bt158.2.2.2.1 5 t136 2).bind fun bt167 => ((trust_Check.f bt167.1 bt167.2.1 bt167.2.2.1 bt167.2.2.2.1 5 t136 2).bind fun bt175 => (if t130 = true then (if t141 = true then (none) else (if 1 < (t129.length : Int) then (if (rd t129 1) = 1 then (if 2 < (t129.length : Int) then (if (rd t129 2) = 7 then ((phaetonref01_SameBytes.f t144 (([7] : List Int))).bind fun t188 => (if t188 = true then (if t145 = 1 then (if t146 = true then (if bt149.2.2 = true then (none) else ((phaetonref01_SameBytes.f bt158.2.2.2.2.1 (([7] : List Int))).bind fun t192 => (if t192 = true then (if bt158.2.2.2.2.2 = 2 then ((phaetonref01_SameBytes.f bt167.2.2.2.2.1 (([8] : List Int))).bind fun t196 => (if t196 = true then (if bt167.2.2.2.2.2 = 4 then (if (bt175.2.2.2.2.1.length : Int) = 0 then (if bt175.2.2.2.2.2 = 3 then (if (bt175.1 && (bt175.2.1 == 3 && (bt175.2.2.1 == 3 && (bt175.2.2.2.1 == 1)))) = true then (some true) else (none)) else (none)) else (none)) else (none)) else (none))) else (none)) else (none)))) else (none)) else (none)) else (none))) else (none)) else (none)) else (none)) else (none))) else (none))))))) = some r := H
        have A19 := Aside0.mk A190
        clear A190
        replace H := Option.bind_eq_some_iff.mp H
        obtain ⟨⟨t149, t150, t151⟩, A200, H⟩ := H
        replace H : ((trust_New.f).bind fun bt154 => ((trust_Check.f bt154.1 bt154.2.1 bt154.2.2.1 bt154.2.2.2 5 t129 2).bind fun bt158 => ((trust_Check.f bt158.1 bt158.2.1 bt158.2.2.1 bt158.2.2.2.1 5 t136 2).bind fun bt167 => ((trust_Check.f bt167.1 bt167.2.1 bt167.2.2.1 bt167.2.2.2.1 5 t136 2).bind fun bt175 => (if t130 = true then (if t141 = true then (none) else (if 1 < (t129.length : Int) then (if (rd t129 1) = 1 then (if 2 < (t129.length : Int) then (if (rd t129 2) = 7 then ((phaetonref01_SameBytes.f t144 (([7] : List Int))).bind fun t188 => (if t188 = true then (if t145 = 1 then (if t146 = true then (if t151 = true then (none) else ((phaetonref01_SameBytes.f bt158.2.2.2.2.1 (([7] : List Int))).bind fun t192 => (if t192 = true then (if bt158.2.2.2.2.2 = 2 then ((phaetonref01_SameBytes.f bt167.2.2.2.2.1 (([8] : List Int))).bind fun t196 => (if t196 = true then (if bt167.2.2.2.2.2 = 4 then (if (bt175.2.2.2.2.1.length : Int) = 0 then (if bt175.2.2.2.2.2 = 3 then (if (bt175.1 && (bt175.2.1 == 3 && (bt175.2.2.1 == 3 && (bt175.2.2.2.1 == 1)))) = true then (some true) else (none)) else (none)) else (none)) else (none)) else (none))) else (none)) else (none)))) else (none)) else (none)) else (none))) else (none)) else (none)) else (none)) else (none))) else (none)))))) = some r := H
        have A20 := Aside0.mk A200
        clear A200
        replace H := Option.bind_eq_some_iff.mp H
        obtain ⟨⟨t154, t155, t156, t157⟩, A210, H⟩ := H
        replace H : ((trust_Check.f t154 t155 t156 t157 5 t129 2).bind fun bt158 => ((trust_Check.f bt158.1 bt158.2.1 bt158.2.2.1 bt158.2.2.2.1 5 t136 2).bind fun bt167 => ((trust_Check.f bt167.1 bt167.2.1 bt167.2.2.1 bt167.2.2.2.1 5 t136 2).bind fun bt175 => (if t130 = true then (if t141 = true then (none) else (if 1 < (t129.length : Int) then (if (rd t129 1) = 1 then (if 2 < (t129.length : Int) then (if (rd t129 2) = 7 then ((phaetonref01_SameBytes.f t144 (([7] : List Int))).bind fun t188 => (if t188 = true then (if t145 = 1 then (if t146 = true then (if t151 = true then (none) else ((phaetonref01_SameBytes.f bt158.2.2.2.2.1 (([7] : List Int))).bind fun t192 => (if t192 = true then (if bt158.2.2.2.2.2 = 2 then ((phaetonref01_SameBytes.f bt167.2.2.2.2.1 (([8] : List Int))).bind fun t196 => (if t196 = true then (if bt167.2.2.2.2.2 = 4 then (if (bt175.2.2.2.2.1.length : Int) = 0 then (if bt175.2.2.2.2.2 = 3 then (if (bt175.1 && (bt175.2.1 == 3 && (bt175.2.2.1 == 3 && (bt175.2.2.2.1 == 1)))) = true then (some true) else (none)) else (none)) else (none)) else (none)) else (none))) else (none)) else (none)))) else (none)) else (none)) else (none))) else (none)) else (none)) else (none)) else (none))) else (none))))) = some r := H
        have A21 := Aside0.mk A210
        clear A210
        replace H := Option.bind_eq_some_iff.mp H
        obtain ⟨⟨t158, t159, t160, t161, t162, t165⟩, A220, H⟩ := H
        replace H : ((trust_Check.f t158 t159 t160 t161 5 t136 2).bind fun bt167 => ((trust_Check.f bt167.1 bt167.2.1 bt167.2.2.1 bt167.2.2.2.1 5 t136 2).bind fun bt175 => (if t130 = true then (if t141 = true then (none) else (if 1 < (t129.length : Int) then (if (rd t129 1) = 1 then (if 2 < (t129.length : Int) then (if (rd t129 2) = 7 then ((phaetonref01_SameBytes.f t144 (([7] : List Int))).bind fun t188 => (if t188 = true then (if t145 = 1 then (if t146 = true then (if t151 = true then (none) else ((phaetonref01_SameBytes.f t162 (([7] : List Int))).bind fun t192 => (if t192 = true then (if t165 = 2 then ((phaetonref01_SameBytes.f bt167.2.2.2.2.1 (([8] : List Int))).bind fun t196 => (if t196 = true then (if bt167.2.2.2.2.2 = 4 then (if (bt175.2.2.2.2.1.length : Int) = 0 then (if bt175.2.2.2.2.2 = 3 then (if (bt175.1 && (bt175.2.1 == 3 && (bt175.2.2.1 == 3 && (bt175.2.2.2.1 == 1)))) = true then (some true) else (none)) else (none)) else (none)) else (none)) else (none))) else (none)) else (none)))) else (none)) else (none)) else (none))) else (none)) else (none)) else (none)) else (none))) else (none)))) = some r := H
        have A22 := Aside0.mk A220
        clear A220
        replace H := Option.bind_eq_some_iff.mp H
        obtain ⟨⟨t167, t168, t169, t170, t171, t174⟩, A230, H⟩ := H
        replace H : ((trust_Check.f t167 t168 t169 t170 5 t136 2).bind fun bt175 => (if t130 = true then (if t141 = true then (none) else (if 1 < (t129.length : Int) then (if (rd t129 1) = 1 then (if 2 < (t129.length : Int) then (if (rd t129 2) = 7 then ((phaetonref01_SameBytes.f t144 (([7] : List Int))).bind fun t188 => (if t188 = true then (if t145 = 1 then (if t146 = true then (if t151 = true then (none) else ((phaetonref01_SameBytes.f t162 (([7] : List Int))).bind fun t192 => (if t192 = true then (if t165 = 2 then ((phaetonref01_SameBytes.f t171 (([8] : List Int))).bind fun t196 => (if t196 = true then (if t174 = 4 then (if (bt175.2.2.2.2.1.length : Int) = 0 then (if bt175.2.2.2.2.2 = 3 then (if (bt175.1 && (bt175.2.1 == 3 && (bt175.2.2.1 == 3 && (bt175.2.2.2.1 == 1)))) = true then (some true) else (none)) else (none)) else (none)) else (none)) else (none))) else (none)) else (none)))) else (none)) else (none)) else (none))) else (none)) else (none)) else (none)) else (none))) else (none))) = some r := H
        have A23 := Aside0.mk A230
        clear A230
        replace H := Option.bind_eq_some_iff.mp H
        obtain ⟨⟨t175, t176, t177, t178, t179, t182⟩, A240, H⟩ := H
        replace H : (if t130 = true then (if t141 = true then (none) else (if 1 < (t129.length : Int) then (if (rd t129 1) = 1 then (if 2 < (t129.length : Int) then (if (rd t129 2) = 7 then ((phaetonref01_SameBytes.f t144 (([7] : List Int))).bind fun t188 => (if t188 = true then (if t145 = 1 then (if t146 = true then (if t151 = true then (none) else ((phaetonref01_SameBytes.f t162 (([7] : List Int))).bind fun t192 => (if t192 = true then (if t165 = 2 then ((phaetonref01_SameBytes.f t171 (([8] : List Int))).bind fun t196 => (if t196 = true then (if t174 = 4 then (if (t179.length : Int) = 0 then (if t182 = 3 then (if (t175 && (t176 == 3 && (t177 == 3 && (t178 == 1)))) = true then (some true) else (none)) else (none)) else (none)) else (none)) else (none))) else (none)) else (none)))) else (none)) else (none)) else (none))) else (none)) else (none)) else (none)) else (none))) else (none)) = some r := H
        have A24 := Aside0.mk A240
        clear A240
        by_cases c25 : t130 = true
        · subst c25
          have H1 : (if t141 = true then (none) else (if 1 < (t129.length : Int) then (if (rd t129 1) = 1 then (if 2 < (t129.length : Int) then (if (rd t129 2) = 7 then ((phaetonref01_SameBytes.f t144 (([7] : List Int))).bind fun t188 => (if t188 = true then (if t145 = 1 then (if t146 = true then (if t151 = true then (none) else ((phaetonref01_SameBytes.f t162 (([7] : List Int))).bind fun t192 => (if t192 = true then (if t165 = 2 then ((phaetonref01_SameBytes.f t171 (([8] : List Int))).bind fun t196 => (if t196 = true then (if t174 = 4 then (if (t179.length : Int) = 0 then (if t182 = 3 then (if (t175 && (t176 == 3 && (t177 == 3 && (t178 == 1)))) = true then (some true) else (none)) else (none)) else (none)) else (none)) else (none))) else (none)) else (none)))) else (none)) else (none)) else (none))) else (none)) else (none)) else (none)) else (none))) = some r := by rw [if_pos rfl] at H; exact H
          clear H
          have H := H1
          clear H1
          by_cases c26 : t141 = true
          · subst c26
            have H1 : (none) = some r := by rw [if_pos rfl] at H; exact H
            clear H
            have H := H1
            clear H1
            exact absurd H (by simp)
          · replace c26 := Bool.eq_false_iff.mpr c26
            subst c26
            have H1 : (if 1 < (t129.length : Int) then (if (rd t129 1) = 1 then (if 2 < (t129.length : Int) then (if (rd t129 2) = 7 then ((phaetonref01_SameBytes.f t144 (([7] : List Int))).bind fun t188 => (if t188 = true then (if t145 = 1 then (if t146 = true then (if t151 = true then (none) else ((phaetonref01_SameBytes.f t162 (([7] : List Int))).bind fun t192 => (if t192 = true then (if t165 = 2 then ((phaetonref01_SameBytes.f t171 (([8] : List Int))).bind fun t196 => (if t196 = true then (if t174 = 4 then (if (t179.length : Int) = 0 then (if t182 = 3 then (if (t175 && (t176 == 3 && (t177 == 3 && (t178 == 1)))) = true then (some true) else (none)) else (none)) else (none)) else (none)) else (none))) else (none)) else (none)))) else (none)) else (none)) else (none))) else (none)) else (none)) else (none)) else (none)) = some r := by rw [if_neg (show ¬ (false = true) by decide)] at H; exact H
            clear H
            have H := H1
            clear H1
            by_cases c27 : 1 < (t129.length : Int)
            · rw [if_pos c27] at H
              have c27b0 : decide (1 < (t129.length : Int)) = true := decide_eq_true c27
              have c27b1 : decide (1 < t129.length) = true := decide_eq_true (by omega)
              clear c27
              by_cases c28 : (rd t129 1) = 1
              · rw [if_pos c28] at H
                have c28b0 : ((rd t129 1) == 1) = true := beq_iff_eq.mpr c28
                have c28b1 : ((rd t129 1) != 1) = false := bne_eq_false_iff_eq.mpr c28
                clear c28
                by_cases c29 : 2 < (t129.length : Int)
                · rw [if_pos c29] at H
                  have c29b0 : decide (2 < (t129.length : Int)) = true := decide_eq_true c29
                  have c29b1 : decide (2 < t129.length) = true := decide_eq_true (by omega)
                  clear c29
                  by_cases c30 : (rd t129 2) = 7
                  · rw [if_pos c30] at H
                    have c30b0 : ((rd t129 2) == 7) = true := beq_iff_eq.mpr c30
                    have c30b1 : ((rd t129 2) != 7) = false := bne_eq_false_iff_eq.mpr c30
                    clear c30
                    obtain ⟨y185, hy185⟩ : ∃ y_ : List Int, y_ = (([7] : List Int)) := ⟨_, rfl⟩
                    replace H : ((phaetonref01_SameBytes.f t144 y185).bind fun t188 => (if t188 = true then (if t145 = 1 then (if t146 = true then (if t151 = true then (none) else ((phaetonref01_SameBytes.f t162 (([7] : List Int))).bind fun t192 => (if t192 = true then (if t165 = 2 then ((phaetonref01_SameBytes.f t171 (([8] : List Int))).bind fun t196 => (if t196 = true then (if t174 = 4 then (if (t179.length : Int) = 0 then (if t182 = 3 then (if (t175 && (t176 == 3 && (t177 == 3 && (t178 == 1)))) = true then (some true) else (none)) else (none)) else (none)) else (none)) else (none))) else (none)) else (none)))) else (none)) else (none)) else (none))) = some r := by first | (rw [hy185]; with_reducible exact H) | (have H2_ := (Option.bind_some _ _).symm.trans H; rw [hy185]; with_reducible exact H2_) | (have H2_ := (Option.bind_some _ _).symm.trans H; with_reducible exact H2_) | with_reducible exact H | (rw [hy185]; exact H) | exact H
                    have Ny185 := Aside0.mk hy185
                    clear hy185
                    replace H := Option.bind_eq_some_iff.mp H
                    obtain ⟨t188, A310, H⟩ := H
                    replace H : (if t188 = true then (if t145 = 1 then (if t146 = true then (if t151 = true then (none) else ((phaetonref01_SameBytes.f t162 (([7] : List Int))).bind fun t192 => (if t192 = true then (if t165 = 2 then ((phaetonref01_SameBytes.f t171 (([8] : List Int))).bind fun t196 => (if t196 = true then (if t174 = 4 then (if (t179.length : Int) = 0 then (if t182 = 3 then (if (t175 && (t176 == 3 && (t177 == 3 && (t178 == 1)))) = true then (some true) else (none)) else (none)) else (none)) else (none)) else (none))) else (none)) else (none)))) else (none)) else (none)) else (none)) = some r := H
                    have A31 := Aside0.mk A310
                    clear A310
                    by_cases c32 : t188 = true
                    · subst c32
                      have H1 : (if t145 = 1 then (if t146 = true then (if t151 = true then (none) else ((phaetonref01_SameBytes.f t162 (([7] : List Int))).bind fun t192 => (if t192 = true then (if t165 = 2 then ((phaetonref01_SameBytes.f t171 (([8] : List Int))).bind fun t196 => (if t196 = true then (if t174 = 4 then (if (t179.length : Int) = 0 then (if t182 = 3 then (if (t175 && (t176 == 3 && (t177 == 3 && (t178 == 1)))) = true then (some true) else (none)) else (none)) else (none)) else (none)) else (none))) else (none)) else (none)))) else (none)) else (none)) = some r := by rw [if_pos rfl] at H; exact H
                      clear H
                      have H := H1
                      clear H1
                      by_cases c33 : t145 = 1
                      · rw [if_pos c33] at H
                        have c33b0 : (t145 == 1) = true := beq_iff_eq.mpr c33
                        have c33b1 : (t145 != 1) = false := bne_eq_false_iff_eq.mpr c33
                        clear c33
                        by_cases c34 : t146 = true
                        · subst c34
                          have H1 : (if t151 = true then (none) else ((phaetonref01_SameBytes.f t162 (([7] : List Int))).bind fun t192 => (if t192 = true then (if t165 = 2 then ((phaetonref01_SameBytes.f t171 (([8] : List Int))).bind fun t196 => (if t196 = true then (if t174 = 4 then (if (t179.length : Int) = 0 then (if t182 = 3 then (if (t175 && (t176 == 3 && (t177 == 3 && (t178 == 1)))) = true then (some true) else (none)) else (none)) else (none)) else (none)) else (none))) else (none)) else (none)))) = some r := by rw [if_pos rfl] at H; exact H
                          clear H
                          have H := H1
                          clear H1
                          by_cases c35 : t151 = true
                          · subst c35
                            have H1 : (none) = some r := by rw [if_pos rfl] at H; exact H
                            clear H
                            have H := H1
                            clear H1
                            exact absurd H (by simp)
                          · replace c35 := Bool.eq_false_iff.mpr c35
                            subst c35
                            have H1 : ((phaetonref01_SameBytes.f t162 (([7] : List Int))).bind fun t192 => (if t192 = true then (if t165 = 2 then ((phaetonref01_SameBytes.f t171 (([8] : List Int))).bind fun t196 => (if t196 = true then (if t174 = 4 then (if (t179.length : Int) = 0 then (if t182 = 3 then (if (t175 && (t176 == 3 && (t177 == 3 && (t178 == 1)))) = true then (some true) else (none)) else (none)) else (none)) else (none)) else (none))) else (none)) else (none))) = some r := by rw [if_neg (show ¬ (false = true) by decide)] at H; exact H
                            clear H
                            have H := H1
                            clear H1
                            obtain ⟨y189, hy189⟩ : ∃ y_ : List Int, y_ = (([7] : List Int)) := ⟨_, rfl⟩
                            replace H : ((phaetonref01_SameBytes.f t162 y189).bind fun t192 => (if t192 = true then (if t165 = 2 then ((phaetonref01_SameBytes.f t171 (([8] : List Int))).bind fun t196 => (if t196 = true then (if t174 = 4 then (if (t179.length : Int) = 0 then (if t182 = 3 then (if (t175 && (t176 == 3 && (t177 == 3 && (t178 == 1)))) = true then (some true) else (none)) else (none)) else (none)) else (none)) else (none))) else (none)) else (none))) = some r := by first | (rw [hy189]; with_reducible exact H) | (have H2_ := (Option.bind_some _ _).symm.trans H; rw [hy189]; with_reducible exact H2_) | (have H2_ := (Option.bind_some _ _).symm.trans H; with_reducible exact H2_) | with_reducible exact H | (rw [hy189]; exact H) | exact H
                            have Ny189 := Aside0.mk hy189
                            clear hy189
                            replace H := Option.bind_eq_some_iff.mp H
                            obtain ⟨t192, A360, H⟩ := H
                            replace H : (if t192 = true then (if t165 = 2 then ((phaetonref01_SameBytes.f t171 (([8] : List Int))).bind fun t196 => (if t196 = true then (if t174 = 4 then (if (t179.length : Int) = 0 then (if t182 = 3 then (if (t175 && (t176 == 3 && (t177 == 3 && (t178 == 1)))) = true then (some true) else (none)) else (none)) else (none)) else (none)) else (none))) else (none)) else (none)) = some r := H
                            have A36 := Aside0.mk A360
                            clear A360
                            by_cases c37 : t192 = true
                            · subst c37
                              have H1 : (if t165 = 2 then ((phaetonref01_SameBytes.f t171 (([8] : List Int))).bind fun t196 => (if t196 = true then (if t174 = 4 then (if (t179.length : Int) = 0 then (if t182 = 3 then (if (t175 && (t176 == 3 && (t177 == 3 && (t178 == 1)))) = true then (some true) else (none)) else (none)) else (none)) else (none)) else (none))) else (none)) = some r := by rw [if_pos rfl] at H; exact H
                              clear H
                              have H := H1
                              clear H1
                              by_cases c38 : t165 = 2
                              · rw [if_pos c38] at H
                                have c38b0 : (t165 == 2) = true := beq_iff_eq.mpr c38
                                have c38b1 : (t165 != 2) = false := bne_eq_false_iff_eq.mpr c38
                                clear c38
                                obtain ⟨y193, hy193⟩ : ∃ y_ : List Int, y_ = (([8] : List Int)) := ⟨_, rfl⟩
                                replace H : ((phaetonref01_SameBytes.f t171 y193).bind fun t196 => (if t196 = true then (if t174 = 4 then (if (t179.length : Int) = 0 then (if t182 = 3 then (if (t175 && (t176 == 3 && (t177 == 3 && (t178 == 1)))) = true then (some true) else (none)) else (none)) else (none)) else (none)) else (none))) = some r := by first | (rw [hy193]; with_reducible exact H) | (have H2_ := (Option.bind_some _ _).symm.trans H; rw [hy193]; with_reducible exact H2_) | (have H2_ := (Option.bind_some _ _).symm.trans H; with_reducible exact H2_) | with_reducible exact H | (rw [hy193]; exact H) | exact H
                                have Ny193 := Aside0.mk hy193
                                clear hy193
                                replace H := Option.bind_eq_some_iff.mp H
                                obtain ⟨t196, A390, H⟩ := H
                                replace H : (if t196 = true then (if t174 = 4 then (if (t179.length : Int) = 0 then (if t182 = 3 then (if (t175 && (t176 == 3 && (t177 == 3 && (t178 == 1)))) = true then (some true) else (none)) else (none)) else (none)) else (none)) else (none)) = some r := H
                                have A39 := Aside0.mk A390
                                clear A390
                                by_cases c40 : t196 = true
                                · subst c40
                                  have H1 : (if t174 = 4 then (if (t179.length : Int) = 0 then (if t182 = 3 then (if (t175 && (t176 == 3 && (t177 == 3 && (t178 == 1)))) = true then (some true) else (none)) else (none)) else (none)) else (none)) = some r := by rw [if_pos rfl] at H; exact H
                                  clear H
                                  have H := H1
                                  clear H1
                                  by_cases c41 : t174 = 4
                                  · rw [if_pos c41] at H
                                    have c41b0 : (t174 == 4) = true := beq_iff_eq.mpr c41
                                    have c41b1 : (t174 != 4) = false := bne_eq_false_iff_eq.mpr c41
                                    clear c41
                                    by_cases c42 : (t179.length : Int) = 0
                                    · rw [if_pos c42] at H
                                      have c42b0 : ((t179.length : Int) == 0) = true := beq_iff_eq.mpr c42
                                      have c42b1 : ((t179.length : Int) != 0) = false := bne_eq_false_iff_eq.mpr c42
                                      clear c42
                                      by_cases c43 : t182 = 3
                                      · rw [if_pos c43] at H
                                        have c43b0 : (t182 == 3) = true := beq_iff_eq.mpr c43
                                        have c43b1 : (t182 != 3) = false := bne_eq_false_iff_eq.mpr c43
                                        clear c43
                                        by_cases c44 : (t175 && (t176 == 3 && (t177 == 3 && (t178 == 1)))) = true
                                        · rw [if_pos c44] at H
                                          have c44b0 : (t175 && (t176 == 3 && (t177 == 3 && (t178 == 1)))) = true := c44
                                          clear c44
                                          obtain rfl := Option.some.inj H
                                          obtain ⟨Ao45, co45, eo45⟩ := Kd.R_slice HO_1.out
                                          subst eo45
                                          go_wp2_with (first | ((with_reducible refine gate_store (t := 24) (p := 13) rfl ?_); refine HW.store_box2 rfl rfl 24 _ _ rfl rfl rfl BK166.out rfl (by kernel_rfl) (by intro q hq; simp only [List.mem_cons, List.not_mem_nil, or_false] at hq; rcases hq with rfl | rfl | rfl | rfl <;> rfl) ?_; intro w1_ hw1_ hk1_; simp only [List.toList_toArray, World.setCells, Nat.zero_add, Nat.reduceAdd] at hw1_; subst hw1_; have hcb166_0 := (blk_cell hk1_ 0).trans rfl; have hfb166_0 := blk_frozen hk1_ 0; have hcb166_1 := (blk_cell hk1_ 1).trans rfl; have hfb166_1 := blk_frozen hk1_ 1; have hcb166_2 := (blk_cell hk1_ 2).trans rfl; have hfb166_2 := blk_frozen hk1_ 2; have hcb166_3 := (blk_cell hk1_ 3).trans rfl; have hfb166_3 := blk_frozen hk1_ 3; clear hk1_) | ((with_reducible refine gate_callee (f := 13) rfl ?_); refine goesL_ (some 44) rfl rfl Try.func13 (by kernel_rfl) rfl #[.int .i64 5, .slice Ao45 t129.length co45] rfl (by (try simp only [List.map_toArray, List.map_cons, List.map_nil]); first | done | rfl | (simp only [List.length_drop, List.length_take]; rfl)) ?_; (with_reducible refine (trust_Open.calls 5 _ _ t129 t144 t145 true _ ?side1 ?side2 A19.out).mono ?_); (case side1 => repeat (first | exact (Kd.R_reads' HO_1.out).2.2 | (with_reducible refine Kd.C_alloc ?_ _) | (with_reducible refine Kd.C_drewN ?_ _) | (with_reducible refine Kd.C_drew ?_))); (case side2 => exact (Kd.R_reads' HO_1.out).2.1); rintro e w46 ⟨v147, rfl, ho0, hb⟩; refine ⟨_, rfl, ?_⟩; have n0_ := Aside0.mk (Kd.R_elder' (by (with_reducible repeat (first | apply Kd.R_alloc | apply Kd.R_drewN | apply Kd.R_drew)); exact HO_1.out) (Kd.R_base ho0) hb); have n1_ := Aside0.mk (Kd.R_elder' (by (with_reducible repeat (first | apply Kd.R_alloc | apply Kd.R_drewN | apply Kd.R_drew)); exact HO_3.out) (Kd.R_base ho0) hb); have n2_ := Aside0.mk (Kd.R_lower (Kd.R_new' (Kd.R_new' ho0 (Kd.R_lt (by (with_reducible repeat (first | apply Kd.R_alloc | apply Kd.R_drewN | apply Kd.R_drew)); exact HO_1.out))) (Kd.R_lt (by (with_reducible repeat (first | apply Kd.R_alloc | apply Kd.R_drewN | apply Kd.R_drew)); exact HO_3.out))) (below_size (by repeat (first | (with_reducible first | exact HB.out | apply below_alloc | apply pw_below_drewN | apply below_drew1) | exact HB.out)))); have n3_ := Aside0.mk (below_step (by repeat (first | (with_reducible first | exact HB.out | apply below_alloc | apply pw_below_drewN | apply below_drew1) | exact HB.out)) hb); clear HO_1; clear HO_3; clear HB; have HO_1 := n0_; have HO_3 := n1_; have HO148 := n2_; have HB := n3_; clear n0_ n1_ n2_ n3_; (try clear hb); (try clear hb2); (try clear hk); (try clear hi); (try clear ho0)) | ((with_reducible refine gate_callee (f := 13) rfl ?_); refine goesL_ (some 50) rfl rfl Try.func13 (by kernel_rfl) rfl #[.int .i64 6, .slice Ao45 t129.length co45] rfl (by (try simp only [List.map_toArray, List.map_cons, List.map_nil]); first | done | rfl | (simp only [List.length_drop, List.length_take]; rfl)) ?_; (with_reducible refine (trust_Open.calls 6 _ _ t129 t149 t150 false _ ?side1 ?side2 A20.out).mono ?_); (case side1 => repeat (first | exact (Kd.R_reads' HO_1.out).2.2 | (with_reducible refine Kd.C_alloc ?_ _) | (with_reducible refine Kd.C_drewN ?_ _) | (with_reducible refine Kd.C_drew ?_))); (case side2 => exact (Kd.R_reads' HO_1.out).2.1); rintro e w47 ⟨v152, rfl, ho0, hb⟩; refine ⟨_, rfl, ?_⟩; have n0_ := Aside0.mk (Kd.R_elder' (by (with_reducible repeat (first | apply Kd.R_alloc | apply Kd.R_drewN | apply Kd.R_drew)); exact HO_1.out) (Kd.R_base ho0) hb); have n1_ := Aside0.mk (Kd.R_elder' (by (with_reducible repeat (first | apply Kd.R_alloc | apply Kd.R_drewN | apply Kd.R_drew)); exact HO_3.out) (Kd.R_base ho0) hb); have n2_ := Aside0.mk (Kd.R_elder' (by (with_reducible repeat (first | apply Kd.R_alloc | apply Kd.R_drewN | apply Kd.R_drew)); exact HO148.out) (Kd.R_base ho0) hb); have n3_ := Aside0.mk (Kd.R_lower (Kd.R_new' (Kd.R_new' (Kd.R_new' ho0 (Kd.R_lt (by (with_reducible repeat (first | apply Kd.R_alloc | apply Kd.R_drewN | apply Kd.R_drew)); exact HO_1.out))) (Kd.R_lt (by (with_reducible repeat (first | apply Kd.R_alloc | apply Kd.R_drewN | apply Kd.R_drew)); exact HO_3.out))) (Kd.R_lt (by (with_reducible repeat (first | apply Kd.R_alloc | apply Kd.R_drewN | apply Kd.R_drew)); exact HO148.out))) (below_size (by repeat (first | (with_reducible first | exact HB.out | apply below_alloc | apply pw_below_drewN | apply below_drew1) | exact HB.out)))); have n4_ := Aside0.mk (below_step (by repeat (first | (with_reducible first | exact HB.out | apply below_alloc | apply pw_below_drewN | apply below_drew1) | exact HB.out)) hb); clear HO_1; clear HO_3; clear HO148; clear HB; have HO_1 := n0_; have HO_3 := n1_; have HO148 := n2_; have HO153 := n3_; have HB := n4_; clear n0_ n1_ n2_ n3_ n4_; (try clear hb); (try clear hb2); (try clear hk); (try clear hi); (try clear ho0)) | ((with_reducible refine gate_callee (f := 16) rfl ?_); refine goesL_ (some 55) rfl rfl Try.func16 (by kernel_rfl) rfl #[] rfl (by (try simp only [List.map_toArray, List.map_cons, List.map_nil]); first | done | rfl | (simp only [List.length_drop, List.length_take]; rfl)) ?_; (with_reducible refine (trust_New.calls  t154 t155 t156 t157 _ A21.out).mono ?_); rintro e w48 ⟨rfl, hb⟩; refine ⟨_, rfl, ?_⟩; have n0_ := Aside0.mk (Kd.R_below (by (with_reducible repeat (first | apply Kd.R_alloc | apply Kd.R_drewN | apply Kd.R_drew)); exact HO_1.out) hb); have n1_ := Aside0.mk (Kd.R_below (by (with_reducible repeat (first | apply Kd.R_alloc | apply Kd.R_drewN | apply Kd.R_drew)); exact HO_3.out) hb); have n2_ := Aside0.mk (Kd.R_below (by (with_reducible repeat (first | apply Kd.R_alloc | apply Kd.R_drewN | apply Kd.R_drew)); exact HO148.out) hb); have n3_ := Aside0.mk (Kd.R_below (by (with_reducible repeat (first | apply Kd.R_alloc | apply Kd.R_drewN | apply Kd.R_drew)); exact HO153.out) hb); have n4_ := Aside0.mk (below_step (by repeat (first | (with_reducible first | exact HB.out | apply below_alloc | apply pw_below_drewN | apply below_drew1) | exact HB.out)) hb); clear HO_1; clear HO_3; clear HO148; clear HO153; clear HB; have HO_1 := n0_; have HO_3 := n1_; have HO148 := n2_; have HO153 := n3_; have HB := n4_; clear n0_ n1_ n2_ n3_ n4_; (try clear hb); (try clear hb2); (try clear hk); (try clear hi)) | ((with_reducible refine gate_callee (f := 19) rfl ?_); refine goesL_ (some 57) rfl rfl Try.func19 (by kernel_rfl) rfl #[.agg #[.bool t154, .int .i64 t155, .int .i64 t156, .int .i64 t157], .int .i64 5, .slice Ao45 t129.length co45, .int .i64 2] rfl (by (try simp only [List.map_toArray, List.map_cons, List.map_nil]); first | done | rfl | (simp only [List.length_drop, List.length_take]; rfl)) ?_; (with_reducible refine (trust_Check.calls t154 t155 t156 t157 5 _ _ t129 2 t158 t159 t160 t161 t162 t165 _ ?side1 ?side2 A22.out).mono ?_); (case side1 => repeat (first | exact (Kd.R_reads' HO_1.out).2.2 | (with_reducible refine Kd.C_alloc ?_ _) | (with_reducible refine Kd.C_drewN ?_ _) | (with_reducible refine Kd.C_drew ?_))); (case side2 => exact (Kd.R_reads' HO_1.out).2.1); rintro e w49 ⟨v163, rfl, ho0, hb⟩; refine ⟨_, rfl, ?_⟩; have n0_ := Aside0.mk (Kd.R_elder' (by (with_reducible repeat (first | apply Kd.R_alloc | apply Kd.R_drewN | apply Kd.R_drew)); exact HO_1.out) (Kd.R_base ho0) hb); have n1_ := Aside0.mk (Kd.R_elder' (by (with_reducible repeat (first | apply Kd.R_alloc | apply Kd.R_drewN | apply Kd.R_drew)); exact HO_3.out) (Kd.R_base ho0) hb); have n2_ := Aside0.mk (Kd.R_elder' (by (with_reducible repeat (first | apply Kd.R_alloc | apply Kd.R_drewN | apply Kd.R_drew)); exact HO148.out) (Kd.R_base ho0) hb); have n3_ := Aside0.mk (Kd.R_elder' (by (with_reducible repeat (first | apply Kd.R_alloc | apply Kd.R_drewN | apply Kd.R_drew)); exact HO153.out) (Kd.R_base ho0) hb); have n4_ := Aside0.mk (Kd.R_lower (Kd.R_new' (Kd.R_new' (Kd.R_new' (Kd.R_new' ho0 (Kd.R_lt (by (with_reducible repeat (first | apply Kd.R_alloc | apply Kd.R_drewN | apply Kd.R_drew)); exact HO_1.out))) (Kd.R_lt (by (with_reducible repeat (first | apply Kd.R_alloc | apply Kd.R_drewN | apply Kd.R_drew)); exact HO_3.out))) (Kd.R_lt (by (with_reducible repeat (first | apply Kd.R_alloc | apply Kd.R_drewN | apply Kd.R_drew)); exact HO148.out))) (Kd.R_lt (by (with_reducible repeat (first | apply Kd.R_alloc | apply Kd.R_drewN | apply Kd.R_drew)); exact HO153.out))) (below_size (by repeat (first | (with_reducible first | exact HB.out | apply below_alloc | apply pw_below_drewN | apply below_drew1) | exact HB.out)))); have n5_ := Aside0.mk (below_step (by repeat (first | (with_reducible first | exact HB.out | apply below_alloc | apply pw_below_drewN | apply below_drew1) | exact HB.out)) hb); clear HO_1; clear HO_3; clear HO148; clear HO153; clear HB; have HO_1 := n0_; have HO_3 := n1_; have HO148 := n2_; have HO153 := n3_; have HO164 := n4_; have HB := n5_; clear n0_ n1_ n2_ n3_ n4_ n5_; (try clear hb); (try clear hb2); (try clear hk); (try clear hi); (try clear ho0)) | ((with_reducible refine gate_dst (N := 13) rfl ?_); (try (refine gate_guard (by rfl) ?_; dsimp only)); refine box_event ?hg (N := 13) ?hd (cs := #[.bool false, .int .i64 0, .int .i64 0, .int .i64 0]) (t := 24) ?hr ?_; (case hd => rfl); (case hg => rfl); (case hr => first | (go_simp; done) | (go_simp; rfl)); intro gb166 hg w50 hbox hb; have n0_ := Aside0.mk (Kd.R_below (by (with_reducible repeat (first | apply Kd.R_alloc | apply Kd.R_drewN | apply Kd.R_drew)); exact HO_1.out) hb); have n1_ := Aside0.mk (Kd.R_below (by (with_reducible repeat (first | apply Kd.R_alloc | apply Kd.R_drewN | apply Kd.R_drew)); exact HO_3.out) hb); have n2_ := Aside0.mk (Kd.R_below (by (with_reducible repeat (first | apply Kd.R_alloc | apply Kd.R_drewN | apply Kd.R_drew)); exact HO148.out) hb); have n3_ := Aside0.mk (Kd.R_below (by (with_reducible repeat (first | apply Kd.R_alloc | apply Kd.R_drewN | apply Kd.R_drew)); exact HO153.out) hb); have n4_ := Aside0.mk (Kd.R_below (by (with_reducible repeat (first | apply Kd.R_alloc | apply Kd.R_drewN | apply Kd.R_drew)); exact HO164.out) hb); have n5_ := Aside0.mk (below_step (by repeat (first | (with_reducible first | exact HB.out | apply below_alloc | apply pw_below_drewN | apply below_drew1) | exact HB.out)) hb); have n6_ := Aside0.mk (hbox); have n7_ := Aside0.mk ((by rw [hg]; exact (below_size (by repeat (first | (with_reducible first | exact HB.out | apply below_alloc | apply pw_below_drewN | apply below_drew1) | exact HB.out))) : w.heap.size ≤ gb166)); have n8_ := Aside0.mk ((by rw [hg]; exact (below_size (by repeat (first | (with_reducible first | exact HB.out | apply below_alloc | apply pw_below_drewN | apply below_drew1) | exact HB.out))) : w.heap.size ≤ gb166)); clear HO_1; clear HO_3; clear HO148; clear HO153; clear HO164; clear HB; have HO_1 := n0_; have HO_3 := n1_; have HO148 := n2_; have HO153 := n3_; have HO164 := n4_; have HB := n5_; have BK166 := n6_; have GW166 := n7_; have GE166 := n8_; clear n0_ n1_ n2_ n3_ n4_ n5_ n6_ n7_ n8_; clear hb hbox hg; have hcz51_0 : w50.cell? ⟨gb166, 0, none⟩ = some (.bool false) := (blk_cell BK166.out 0).trans rfl; have hcz51_1 : w50.cell? ⟨gb166, 1, none⟩ = some (.int .i64 0) := (blk_cell BK166.out 1).trans rfl; have hcz51_2 : w50.cell? ⟨gb166, 2, none⟩ = some (.int .i64 0) := (blk_cell BK166.out 2).trans rfl; have hcz51_3 : w50.cell? ⟨gb166, 3, none⟩ = some (.int .i64 0) := (blk_cell BK166.out 3).trans rfl; have hfz51_0 := blk_frozen BK166.out 0; have hfz51_1 := blk_frozen BK166.out 1; have hfz51_2 := blk_frozen BK166.out 2; have hfz51_3 := blk_frozen BK166.out 3; obtain ⟨Ao52, co52, eo52⟩ := Kd.R_slice HO_3.out; subst eo52) | ((with_reducible refine gate_callee (f := 19) rfl ?_); refine goesL_ (some 64) rfl rfl Try.func19 (by kernel_rfl) rfl #[.agg #[.bool t158, .int .i64 t159, .int .i64 t160, .int .i64 t161], .int .i64 5, .slice Ao52 t136.length co52, .int .i64 2] rfl (by (try simp only [List.map_toArray, List.map_cons, List.map_nil]); first | done | rfl | (simp only [List.length_drop, List.length_take]; rfl)) ?_; (with_reducible refine (trust_Check.calls t158 t159 t160 t161 5 _ _ t136 2 t167 t168 t169 t170 t171 t174 _ ?side1 ?side2 A23.out).mono ?_); (case side1 => refine (Kd.R_reads' (e := 5) (base := w.heap.size) (ok := fun k_ => (((some k_ ≠ (.slice Ao45 t129.length co45 : Value).ownBlock ∧ some k_ ≠ (v147 : Value).ownBlock) ∧ some k_ ≠ (v152 : Value).ownBlock) ∧ some k_ ≠ (v163 : Value).ownBlock)) (n := t136.length) (c := co52) ?_).2.2; exact (by (with_reducible repeat (first | apply Kd.R_alloc | apply Kd.R_drewN | apply Kd.R_drew)); exact (Kd.R_mono (Kd.R_far (p := ⟨gb166, 3, none⟩) (Kd.R_far (p := ⟨gb166, 2, none⟩) (Kd.R_far (p := ⟨gb166, 1, none⟩) (Kd.R_far (p := ⟨gb166, 0, none⟩) (Kd.R_types HO_3.out BK166.out (by decide)) (fun _ hk => hk.2) (.bool t158)) (fun _ hk => hk.2) (.int .i64 t159)) (fun _ hk => hk.2) (.int .i64 t160)) (fun _ hk => hk.2) (.int .i64 t161)) (fun _ h_ => h_.1)))); (case side2 => exact (Kd.R_reads' HO_3.out).2.1); rintro e w53 ⟨v172, rfl, ho0, hb⟩; refine ⟨_, rfl, ?_⟩; have n0_ := Aside0.mk (Kd.R_elder' (by (with_reducible repeat (first | apply Kd.R_alloc | apply Kd.R_drewN | apply Kd.R_drew)); exact (Kd.R_mono (Kd.R_far (p := ⟨gb166, 3, none⟩) (Kd.R_far (p := ⟨gb166, 2, none⟩) (Kd.R_far (p := ⟨gb166, 1, none⟩) (Kd.R_far (p := ⟨gb166, 0, none⟩) (Kd.R_types HO_1.out BK166.out (by decide)) (fun _ hk => hk.2) (.bool t158)) (fun _ hk => hk.2) (.int .i64 t159)) (fun _ hk => hk.2) (.int .i64 t160)) (fun _ hk => hk.2) (.int .i64 t161)) (fun _ h_ => h_.1))) (Kd.R_base ho0) hb); have n1_ := Aside0.mk (Kd.R_elder' (by (with_reducible repeat (first | apply Kd.R_alloc | apply Kd.R_drewN | apply Kd.R_drew)); exact (Kd.R_mono (Kd.R_far (p := ⟨gb166, 3, none⟩) (Kd.R_far (p := ⟨gb166, 2, none⟩) (Kd.R_far (p := ⟨gb166, 1, none⟩) (Kd.R_far (p := ⟨gb166, 0, none⟩) (Kd.R_types HO_3.out BK166.out (by decide)) (fun _ hk => hk.2) (.bool t158)) (fun _ hk => hk.2) (.int .i64 t159)) (fun _ hk => hk.2) (.int .i64 t160)) (fun _ hk => hk.2) (.int .i64 t161)) (fun _ h_ => h_.1))) (Kd.R_base ho0) hb); have n2_ := Aside0.mk (Kd.R_elder' (by (with_reducible repeat (first | apply Kd.R_alloc | apply Kd.R_drewN | apply Kd.R_drew)); exact (Kd.R_mono (Kd.R_far (p := ⟨gb166, 3, none⟩) (Kd.R_far (p := ⟨gb166, 2, none⟩) (Kd.R_far (p := ⟨gb166, 1, none⟩) (Kd.R_far (p := ⟨gb166, 0, none⟩) (Kd.R_types HO148.out BK166.out (by decide)) (fun _ hk => hk.2) (.bool t158)) (fun _ hk => hk.2) (.int .i64 t159)) (fun _ hk => hk.2) (.int .i64 t160)) (fun _ hk => hk.2) (.int .i64 t161)) (fun _ h_ => h_.1))) (Kd.R_base ho0) hb); have n3_ := Aside0.mk (Kd.R_elder' (by (with_reducible repeat (first | apply Kd.R_alloc | apply Kd.R_drewN | apply Kd.R_drew)); exact (Kd.R_mono (Kd.R_far (p := ⟨gb166, 3, none⟩) (Kd.R_far (p := ⟨gb166, 2, none⟩) (Kd.R_far (p := ⟨gb166, 1, none⟩) (Kd.R_far (p := ⟨gb166, 0, none⟩) (Kd.R_types HO153.out BK166.out (by decide)) (fun _ hk => hk.2) (.bool t158)) (fun _ hk => hk.2) (.int .i64 t159)) (fun _ hk => hk.2) (.int .i64 t160)) (fun _ hk => hk.2) (.int .i64 t161)) (fun _ h_ => h_.1))) (Kd.R_base ho0) hb); have n4_ := Aside0.mk (Kd.R_elder' (by (with_reducible repeat (first | apply Kd.R_alloc | apply Kd.R_drewN | apply Kd.R_drew)); exact (Kd.R_mono (Kd.R_far (p := ⟨gb166, 3, none⟩) (Kd.R_far (p := ⟨gb166, 2, none⟩) (Kd.R_far (p := ⟨gb166, 1, none⟩) (Kd.R_far (p := ⟨gb166, 0, none⟩) (Kd.R_types HO164.out BK166.out (by decide)) (fun _ hk => hk.2) (.bool t158)) (fun _ hk => hk.2) (.int .i64 t159)) (fun _ hk => hk.2) (.int .i64 t160)) (fun _ hk => hk.2) (.int .i64 t161)) (fun _ h_ => h_.1))) (Kd.R_base ho0) hb); have n5_ := Aside0.mk (Kd.R_lower (Kd.R_new' (Kd.R_new' (Kd.R_new' (Kd.R_new' (Kd.R_new' ho0 (Kd.R_lt (by (with_reducible repeat (first | apply Kd.R_alloc | apply Kd.R_drewN | apply Kd.R_drew)); exact (Kd.R_mono (Kd.R_far (p := ⟨gb166, 3, none⟩) (Kd.R_far (p := ⟨gb166, 2, none⟩) (Kd.R_far (p := ⟨gb166, 1, none⟩) (Kd.R_far (p := ⟨gb166, 0, none⟩) (Kd.R_types HO_1.out BK166.out (by decide)) (fun _ hk => hk.2) (.bool t158)) (fun _ hk => hk.2) (.int .i64 t159)) (fun _ hk => hk.2) (.int .i64 t160)) (fun _ hk => hk.2) (.int .i64 t161)) (fun _ h_ => h_.1))))) (Kd.R_lt (by (with_reducible repeat (first | apply Kd.R_alloc | apply Kd.R_drewN | apply Kd.R_drew)); exact (Kd.R_mono (Kd.R_far (p := ⟨gb166, 3, none⟩) (Kd.R_far (p := ⟨gb166, 2, none⟩) (Kd.R_far (p := ⟨gb166, 1, none⟩) (Kd.R_far (p := ⟨gb166, 0, none⟩) (Kd.R_types HO_3.out BK166.out (by decide)) (fun _ hk => hk.2) (.bool t158)) (fun _ hk => hk.2) (.int .i64 t159)) (fun _ hk => hk.2) (.int .i64 t160)) (fun _ hk => hk.2) (.int .i64 t161)) (fun _ h_ => h_.1))))) (Kd.R_lt (by (with_reducible repeat (first | apply Kd.R_alloc | apply Kd.R_drewN | apply Kd.R_drew)); exact (Kd.R_mono (Kd.R_far (p := ⟨gb166, 3, none⟩) (Kd.R_far (p := ⟨gb166, 2, none⟩) (Kd.R_far (p := ⟨gb166, 1, none⟩) (Kd.R_far (p := ⟨gb166, 0, none⟩) (Kd.R_types HO148.out BK166.out (by decide)) (fun _ hk => hk.2) (.bool t158)) (fun _ hk => hk.2) (.int .i64 t159)) (fun _ hk => hk.2) (.int .i64 t160)) (fun _ hk => hk.2) (.int .i64 t161)) (fun _ h_ => h_.1))))) (Kd.R_lt (by (with_reducible repeat (first | apply Kd.R_alloc | apply Kd.R_drewN | apply Kd.R_drew)); exact (Kd.R_mono (Kd.R_far (p := ⟨gb166, 3, none⟩) (Kd.R_far (p := ⟨gb166, 2, none⟩) (Kd.R_far (p := ⟨gb166, 1, none⟩) (Kd.R_far (p := ⟨gb166, 0, none⟩) (Kd.R_types HO153.out BK166.out (by decide)) (fun _ hk => hk.2) (.bool t158)) (fun _ hk => hk.2) (.int .i64 t159)) (fun _ hk => hk.2) (.int .i64 t160)) (fun _ hk => hk.2) (.int .i64 t161)) (fun _ h_ => h_.1))))) (Kd.R_lt (by (with_reducible repeat (first | apply Kd.R_alloc | apply Kd.R_drewN | apply Kd.R_drew)); exact (Kd.R_mono (Kd.R_far (p := ⟨gb166, 3, none⟩) (Kd.R_far (p := ⟨gb166, 2, none⟩) (Kd.R_far (p := ⟨gb166, 1, none⟩) (Kd.R_far (p := ⟨gb166, 0, none⟩) (Kd.R_types HO164.out BK166.out (by decide)) (fun _ hk => hk.2) (.bool t158)) (fun _ hk => hk.2) (.int .i64 t159)) (fun _ hk => hk.2) (.int .i64 t160)) (fun _ hk => hk.2) (.int .i64 t161)) (fun _ h_ => h_.1))))) (below_size (by repeat (first | (with_reducible first | exact HB.out | apply below_alloc | apply pw_below_drewN | apply below_drew1 | refine below_set ?_ GE166.out) | exact HB.out)))); have n6_ := Aside0.mk (blk_below (g := gb166) (o := .cells #[.bool t158, .int .i64 t159, .int .i64 t160, .int .i64 t161] 24 (0, 0)) (by (with_reducible repeat (first | refine blk_drewN ?_ _ | refine blk_drew ?_ | refine blk_alloc ?_ _)); refine blk_put (cs := #[.bool t158, .int .i64 t159, .int .i64 t160, .int .i64 0]) ?_ 3 _ rfl; (with_reducible repeat (first | refine blk_drewN ?_ _ | refine blk_drew ?_ | refine blk_alloc ?_ _)); refine blk_put (cs := #[.bool t158, .int .i64 t159, .int .i64 0, .int .i64 0]) ?_ 2 _ rfl; (with_reducible repeat (first | refine blk_drewN ?_ _ | refine blk_drew ?_ | refine blk_alloc ?_ _)); refine blk_put (cs := #[.bool t158, .int .i64 0, .int .i64 0, .int .i64 0]) ?_ 1 _ rfl; (with_reducible repeat (first | refine blk_drewN ?_ _ | refine blk_drew ?_ | refine blk_alloc ?_ _)); refine blk_put (cs := #[.bool false, .int .i64 0, .int .i64 0, .int .i64 0]) ?_ 0 _ rfl; (with_reducible repeat (first | refine blk_drewN ?_ _ | refine blk_drew ?_ | refine blk_alloc ?_ _)); exact BK166.out) hb); have n7_ := Aside0.mk (below_step (by repeat (first | (with_reducible first | exact HB.out | apply below_alloc | apply pw_below_drewN | apply below_drew1 | refine below_set ?_ GE166.out) | exact HB.out)) hb); clear HO_1; clear HO_3; clear HO148; clear HO153; clear HO164; clear BK166; clear HB; have HO_1 := n0_; have HO_3 := n1_; have HO148 := n2_; have HO153 := n3_; have HO164 := n4_; have HO173 := n5_; have BK166 := n6_; have HB := n7_; clear n0_ n1_ n2_ n3_ n4_ n5_ n6_ n7_; (try clear hb); (try clear hb2); (try clear hk); (try clear hi); (try clear ho0); have hcz54_0 : w53.cell? ⟨gb166, 0, none⟩ = some (.bool t158) := (blk_cell BK166.out 0).trans rfl; have hcz54_1 : w53.cell? ⟨gb166, 1, none⟩ = some (.int .i64 t159) := (blk_cell BK166.out 1).trans rfl; have hcz54_2 : w53.cell? ⟨gb166, 2, none⟩ = some (.int .i64 t160) := (blk_cell BK166.out 2).trans rfl; have hcz54_3 : w53.cell? ⟨gb166, 3, none⟩ = some (.int .i64 t161) := (blk_cell BK166.out 3).trans rfl; have hfz54_0 := blk_frozen BK166.out 0; have hfz54_1 := blk_frozen BK166.out 1; have hfz54_2 := blk_frozen BK166.out 2; have hfz54_3 := blk_frozen BK166.out 3) | ((with_reducible refine gate_callee (f := 19) rfl ?_); refine goesL_ (some 71) rfl rfl Try.func19 (by kernel_rfl) rfl #[.agg #[.bool t167, .int .i64 t168, .int .i64 t169, .int .i64 t170], .int .i64 5, .slice Ao52 t136.length co52, .int .i64 2] rfl (by (try simp only [List.map_toArray, List.map_cons, List.map_nil]); first | done | rfl | (simp only [List.length_drop, List.length_take]; rfl)) ?_; (with_reducible refine (trust_Check.calls t167 t168 t169 t170 5 _ _ t136 2 t175 t176 t177 t178 t179 t182 _ ?side1 ?side2 A24.out).mono ?_); (case side1 => refine (Kd.R_reads' (e := 5) (base := w.heap.size) (ok := fun k_ => ((((some k_ ≠ (.slice Ao45 t129.length co45 : Value).ownBlock ∧ some k_ ≠ (v147 : Value).ownBlock) ∧ some k_ ≠ (v152 : Value).ownBlock) ∧ some k_ ≠ (v163 : Value).ownBlock) ∧ some k_ ≠ (v172 : Value).ownBlock)) (n := t136.length) (c := co52) ?_).2.2; exact (by (with_reducible repeat (first | apply Kd.R_alloc | apply Kd.R_drewN | apply Kd.R_drew)); exact (Kd.R_mono (Kd.R_far (p := ⟨gb166, 3, none⟩) (Kd.R_far (p := ⟨gb166, 2, none⟩) (Kd.R_far (p := ⟨gb166, 1, none⟩) (Kd.R_far (p := ⟨gb166, 0, none⟩) (Kd.R_types HO_3.out BK166.out (by decide)) (fun _ hk => hk.2) (.bool t167)) (fun _ hk => hk.2) (.int .i64 t168)) (fun _ hk => hk.2) (.int .i64 t169)) (fun _ hk => hk.2) (.int .i64 t170)) (fun _ h_ => h_.1)))); (case side2 => exact (Kd.R_reads' HO_3.out).2.1); rintro e w55 ⟨v180, rfl, ho0, hb⟩; refine ⟨_, rfl, ?_⟩; have n0_ := Aside0.mk (Kd.R_elder' (by (with_reducible repeat (first | apply Kd.R_alloc | apply Kd.R_drewN | apply Kd.R_drew)); exact (Kd.R_mono (Kd.R_far (p := ⟨gb166, 3, none⟩) (Kd.R_far (p := ⟨gb166, 2, none⟩) (Kd.R_far (p := ⟨gb166, 1, none⟩) (Kd.R_far (p := ⟨gb166, 0, none⟩) (Kd.R_types HO_1.out BK166.out (by decide)) (fun _ hk => hk.2) (.bool t167)) (fun _ hk => hk.2) (.int .i64 t168)) (fun _ hk => hk.2) (.int .i64 t169)) (fun _ hk => hk.2) (.int .i64 t170)) (fun _ h_ => h_.1))) (Kd.R_base ho0) hb); have n1_ := Aside0.mk (Kd.R_elder' (by (with_reducible repeat (first | apply Kd.R_alloc | apply Kd.R_drewN | apply Kd.R_drew)); exact (Kd.R_mono (Kd.R_far (p := ⟨gb166, 3, none⟩) (Kd.R_far (p := ⟨gb166, 2, none⟩) (Kd.R_far (p := ⟨gb166, 1, none⟩) (Kd.R_far (p := ⟨gb166, 0, none⟩) (Kd.R_types HO_3.out BK166.out (by decide)) (fun _ hk => hk.2) (.bool t167)) (fun _ hk => hk.2) (.int .i64 t168)) (fun _ hk => hk.2) (.int .i64 t169)) (fun _ hk => hk.2) (.int .i64 t170)) (fun _ h_ => h_.1))) (Kd.R_base ho0) hb); have n2_ := Aside0.mk (Kd.R_elder' (by (with_reducible repeat (first | apply Kd.R_alloc | apply Kd.R_drewN | apply Kd.R_drew)); exact (Kd.R_mono (Kd.R_far (p := ⟨gb166, 3, none⟩) (Kd.R_far (p := ⟨gb166, 2, none⟩) (Kd.R_far (p := ⟨gb166, 1, none⟩) (Kd.R_far (p := ⟨gb166, 0, none⟩) (Kd.R_types HO148.out BK166.out (by decide)) (fun _ hk => hk.2) (.bool t167)) (fun _ hk => hk.2) (.int .i64 t168)) (fun _ hk => hk.2) (.int .i64 t169)) (fun _ hk => hk.2) (.int .i64 t170)) (fun _ h_ => h_.1))) (Kd.R_base ho0) hb); have n3_ := Aside0.mk (Kd.R_elder' (by (with_reducible repeat (first | apply Kd.R_alloc | apply Kd.R_drewN | apply Kd.R_drew)); exact (Kd.R_mono (Kd.R_far (p := ⟨gb166, 3, none⟩) (Kd.R_far (p := ⟨gb166, 2, none⟩) (Kd.R_far (p := ⟨gb166, 1, none⟩) (Kd.R_far (p := ⟨gb166, 0, none⟩) (Kd.R_types HO153.out BK166.out (by decide)) (fun _ hk => hk.2) (.bool t167)) (fun _ hk => hk.2) (.int .i64 t168)) (fun _ hk => hk.2) (.int .i64 t169)) (fun _ hk => hk.2) (.int .i64 t170)) (fun _ h_ => h_.1))) (Kd.R_base ho0) hb); have n4_ := Aside0.mk (Kd.R_elder' (by (with_reducible repeat (first | apply Kd.R_alloc | apply Kd.R_drewN | apply Kd.R_drew)); exact (Kd.R_mono (Kd.R_far (p := ⟨gb166, 3, none⟩) (Kd.R_far (p := ⟨gb166, 2, none⟩) (Kd.R_far (p := ⟨gb166, 1, none⟩) (Kd.R_far (p := ⟨gb166, 0, none⟩) (Kd.R_types HO164.out BK166.out (by decide)) (fun _ hk => hk.2) (.bool t167)) (fun _ hk => hk.2) (.int .i64 t168)) (fun _ hk => hk.2) (.int .i64 t169)) (fun _ hk => hk.2) (.int .i64 t170)) (fun _ h_ => h_.1))) (Kd.R_base ho0) hb); have n5_ := Aside0.mk (Kd.R_elder' (by (with_reducible repeat (first | apply Kd.R_alloc | apply Kd.R_drewN | apply Kd.R_drew)); exact (Kd.R_mono (Kd.R_far (p := ⟨gb166, 3, none⟩) (Kd.R_far (p := ⟨gb166, 2, none⟩) (Kd.R_far (p := ⟨gb166, 1, none⟩) (Kd.R_far (p := ⟨gb166, 0, none⟩) (Kd.R_types HO173.out BK166.out (by decide)) (fun _ hk => hk.2) (.bool t167)) (fun _ hk => hk.2) (.int .i64 t168)) (fun _ hk => hk.2) (.int .i64 t169)) (fun _ hk => hk.2) (.int .i64 t170)) (fun _ h_ => h_.1))) (Kd.R_base ho0) hb); have n6_ := Aside0.mk (Kd.R_lower (Kd.R_new' (Kd.R_new' (Kd.R_new' (Kd.R_new' (Kd.R_new' (Kd.R_new' ho0 (Kd.R_lt (by (with_reducible repeat (first | apply Kd.R_alloc | apply Kd.R_drewN | apply Kd.R_drew)); exact (Kd.R_mono (Kd.R_far (p := ⟨gb166, 3, none⟩) (Kd.R_far (p := ⟨gb166, 2, none⟩) (Kd.R_far (p := ⟨gb166, 1, none⟩) (Kd.R_far (p := ⟨gb166, 0, none⟩) (Kd.R_types HO_1.out BK166.out (by decide)) (fun _ hk => hk.2) (.bool t167)) (fun _ hk => hk.2) (.int .i64 t168)) (fun _ hk => hk.2) (.int .i64 t169)) (fun _ hk => hk.2) (.int .i64 t170)) (fun _ h_ => h_.1))))) (Kd.R_lt (by (with_reducible repeat (first | apply Kd.R_alloc | apply Kd.R_drewN | apply Kd.R_drew)); exact (Kd.R_mono (Kd.R_far (p := ⟨gb166, 3, none⟩) (Kd.R_far (p := ⟨gb166, 2, none⟩) (Kd.R_far (p := ⟨gb166, 1, none⟩) (Kd.R_far (p := ⟨gb166, 0, none⟩) (Kd.R_types HO_3.out BK166.out (by decide)) (fun _ hk => hk.2) (.bool t167)) (fun _ hk => hk.2) (.int .i64 t168)) (fun _ hk => hk.2) (.int .i64 t169)) (fun _ hk => hk.2) (.int .i64 t170)) (fun _ h_ => h_.1))))) (Kd.R_lt (by (with_reducible repeat (first | apply Kd.R_alloc | apply Kd.R_drewN | apply Kd.R_drew)); exact (Kd.R_mono (Kd.R_far (p := ⟨gb166, 3, none⟩) (Kd.R_far (p := ⟨gb166, 2, none⟩) (Kd.R_far (p := ⟨gb166, 1, none⟩) (Kd.R_far (p := ⟨gb166, 0, none⟩) (Kd.R_types HO148.out BK166.out (by decide)) (fun _ hk => hk.2) (.bool t167)) (fun _ hk => hk.2) (.int .i64 t168)) (fun _ hk => hk.2) (.int .i64 t169)) (fun _ hk => hk.2) (.int .i64 t170)) (fun _ h_ => h_.1))))) (Kd.R_lt (by (with_reducible repeat (first | apply Kd.R_alloc | apply Kd.R_drewN | apply Kd.R_drew)); exact (Kd.R_mono (Kd.R_far (p := ⟨gb166, 3, none⟩) (Kd.R_far (p := ⟨gb166, 2, none⟩) (Kd.R_far (p := ⟨gb166, 1, none⟩) (Kd.R_far (p := ⟨gb166, 0, none⟩) (Kd.R_types HO153.out BK166.out (by decide)) (fun _ hk => hk.2) (.bool t167)) (fun _ hk => hk.2) (.int .i64 t168)) (fun _ hk => hk.2) (.int .i64 t169)) (fun _ hk => hk.2) (.int .i64 t170)) (fun _ h_ => h_.1))))) (Kd.R_lt (by (with_reducible repeat (first | apply Kd.R_alloc | apply Kd.R_drewN | apply Kd.R_drew)); exact (Kd.R_mono (Kd.R_far (p := ⟨gb166, 3, none⟩) (Kd.R_far (p := ⟨gb166, 2, none⟩) (Kd.R_far (p := ⟨gb166, 1, none⟩) (Kd.R_far (p := ⟨gb166, 0, none⟩) (Kd.R_types HO164.out BK166.out (by decide)) (fun _ hk => hk.2) (.bool t167)) (fun _ hk => hk.2) (.int .i64 t168)) (fun _ hk => hk.2) (.int .i64 t169)) (fun _ hk => hk.2) (.int .i64 t170)) (fun _ h_ => h_.1))))) (Kd.R_lt (by (with_reducible repeat (first | apply Kd.R_alloc | apply Kd.R_drewN | apply Kd.R_drew)); exact (Kd.R_mono (Kd.R_far (p := ⟨gb166, 3, none⟩) (Kd.R_far (p := ⟨gb166, 2, none⟩) (Kd.R_far (p := ⟨gb166, 1, none⟩) (Kd.R_far (p := ⟨gb166, 0, none⟩) (Kd.R_types HO173.out BK166.out (by decide)) (fun _ hk => hk.2) (.bool t167)) (fun _ hk => hk.2) (.int .i64 t168)) (fun _ hk => hk.2) (.int .i64 t169)) (fun _ hk => hk.2) (.int .i64 t170)) (fun _ h_ => h_.1))))) (below_size (by repeat (first | (with_reducible first | exact HB.out | apply below_alloc | apply pw_below_drewN | apply below_drew1 | refine below_set ?_ GE166.out) | exact HB.out)))); have n7_ := Aside0.mk (blk_below (g := gb166) (o := .cells #[.bool t167, .int .i64 t168, .int .i64 t169, .int .i64 t170] 24 (0, 0)) (by (with_reducible repeat (first | refine blk_drewN ?_ _ | refine blk_drew ?_ | refine blk_alloc ?_ _)); refine blk_put (cs := #[.bool t167, .int .i64 t168, .int .i64 t169, .int .i64 t161]) ?_ 3 _ rfl; (with_reducible repeat (first | refine blk_drewN ?_ _ | refine blk_drew ?_ | refine blk_alloc ?_ _)); refine blk_put (cs := #[.bool t167, .int .i64 t168, .int .i64 t160, .int .i64 t161]) ?_ 2 _ rfl; (with_reducible repeat (first | refine blk_drewN ?_ _ | refine blk_drew ?_ | refine blk_alloc ?_ _)); refine blk_put (cs := #[.bool t167, .int .i64 t159, .int .i64 t160, .int .i64 t161]) ?_ 1 _ rfl; (with_reducible repeat (first | refine blk_drewN ?_ _ | refine blk_drew ?_ | refine blk_alloc ?_ _)); refine blk_put (cs := #[.bool t158, .int .i64 t159, .int .i64 t160, .int .i64 t161]) ?_ 0 _ rfl; (with_reducible repeat (first | refine blk_drewN ?_ _ | refine blk_drew ?_ | refine blk_alloc ?_ _)); exact BK166.out) hb); have n8_ := Aside0.mk (below_step (by repeat (first | (with_reducible first | exact HB.out | apply below_alloc | apply pw_below_drewN | apply below_drew1 | refine below_set ?_ GE166.out) | exact HB.out)) hb); clear HO_1; clear HO_3; clear HO148; clear HO153; clear HO164; clear HO173; clear BK166; clear HB; have HO_1 := n0_; have HO_3 := n1_; have HO148 := n2_; have HO153 := n3_; have HO164 := n4_; have HO173 := n5_; have HO181 := n6_; have BK166 := n7_; have HB := n8_; clear n0_ n1_ n2_ n3_ n4_ n5_ n6_ n7_ n8_; (try clear hb); (try clear hb2); (try clear hk); (try clear hi); (try clear ho0); have hcz56_0 : w55.cell? ⟨gb166, 0, none⟩ = some (.bool t167) := (blk_cell BK166.out 0).trans rfl; have hcz56_1 : w55.cell? ⟨gb166, 1, none⟩ = some (.int .i64 t168) := (blk_cell BK166.out 1).trans rfl; have hcz56_2 : w55.cell? ⟨gb166, 2, none⟩ = some (.int .i64 t169) := (blk_cell BK166.out 2).trans rfl; have hcz56_3 : w55.cell? ⟨gb166, 3, none⟩ = some (.int .i64 t170) := (blk_cell BK166.out 3).trans rfl; have hfz56_0 := blk_frozen BK166.out 0; have hfz56_1 := blk_frozen BK166.out 1; have hfz56_2 := blk_frozen BK166.out 2; have hfz56_3 := blk_frozen BK166.out 3; have p183 : 0 ≤ (1 : Int) := (by omega); have q183 : 1 < (t129.length : Int) := of_decide_eq_true (by first | (with_reducible assumption) | assumption); obtain ⟨ad183, e183, hx183_0⟩ := Kd.at_int (Kd.R_reads' HO_1.out).2.2 1 p183 q183; cases e183; (try simp only [show (1 : Int).toNat = 1 from rfl, Nat.reduceMul, Nat.reduceEqDiff, Go.Addr.add, ↓reduceIte] at hx183_0); have qi183 : (1 < t129.length) = True := eq_true (by omega); (try rw [show ((1 : Int)).toNat = 1 from rfl] at hx183_0); have hn183_0 : ad183.block ≠ gb166 := Kd.own_blk (Kd.R_ne HO_1.out BK166.out (by decide)); have hn183_1 : ad183.block ≠ gb166 := Kd.own_blk (Kd.R_ne HO_1.out BK166.out (by decide)); have hn183_2 : ad183.block ≠ gb166 := Kd.own_blk (Kd.R_ne HO_1.out BK166.out (by decide)); have hn183_3 : ad183.block ≠ gb166 := Kd.own_blk (Kd.R_ne HO_1.out BK166.out (by decide)); replace hx183_0 := (cell_far (p := ⟨gb166, 0, none⟩) (by first | (rw [add_block]; exact hn183_0) | (show (Addr.add _ _).block ≠ _; rw [add_block]; exact hn183_0) | exact hn183_0) (.bool t175)).trans hx183_0; replace hx183_0 := (cell_far (p := ⟨gb166, 1, none⟩) (by first | (rw [add_block]; exact hn183_1) | (show (Addr.add _ _).block ≠ _; rw [add_block]; exact hn183_1) | exact hn183_1) (.int .i64 t176)).trans hx183_0; replace hx183_0 := (cell_far (p := ⟨gb166, 2, none⟩) (by first | (rw [add_block]; exact hn183_2) | (show (Addr.add _ _).block ≠ _; rw [add_block]; exact hn183_2) | exact hn183_2) (.int .i64 t177)).trans hx183_0; replace hx183_0 := (cell_far (p := ⟨gb166, 3, none⟩) (by first | (rw [add_block]; exact hn183_3) | (show (Addr.add _ _).block ≠ _; rw [add_block]; exact hn183_3) | exact hn183_3) (.int .i64 t178)).trans hx183_0; clear hn183_0; clear hn183_1; clear hn183_2; clear hn183_3; replace p183 := eq_true p183; replace q183 := eq_true q183; have p184 : 0 ≤ (2 : Int) := (by omega); have q184 : 2 < (t129.length : Int) := of_decide_eq_true (by first | (with_reducible assumption) | assumption); obtain ⟨ad184, e184, hx184_0⟩ := Kd.at_int (Kd.R_reads' HO_1.out).2.2 2 p184 q184; obtain rfl : ad183 = ad184 := (by injection e184); (try simp only [show (2 : Int).toNat = 2 from rfl, Nat.reduceMul, Nat.reduceEqDiff, Go.Addr.add, ↓reduceIte] at hx184_0); have qi184 : (2 < t129.length) = True := eq_true (by omega); (try rw [show ((2 : Int)).toNat = 2 from rfl] at hx184_0); have hn184_0 : ad183.block ≠ gb166 := Kd.own_blk (Kd.R_ne HO_1.out BK166.out (by decide)); have hn184_1 : ad183.block ≠ gb166 := Kd.own_blk (Kd.R_ne HO_1.out BK166.out (by decide)); have hn184_2 : ad183.block ≠ gb166 := Kd.own_blk (Kd.R_ne HO_1.out BK166.out (by decide)); have hn184_3 : ad183.block ≠ gb166 := Kd.own_blk (Kd.R_ne HO_1.out BK166.out (by decide)); replace hx184_0 := (cell_far (p := ⟨gb166, 0, none⟩) (by first | (rw [add_block]; exact hn184_0) | (show (Addr.add _ _).block ≠ _; rw [add_block]; exact hn184_0) | exact hn184_0) (.bool t175)).trans hx184_0; replace hx184_0 := (cell_far (p := ⟨gb166, 1, none⟩) (by first | (rw [add_block]; exact hn184_1) | (show (Addr.add _ _).block ≠ _; rw [add_block]; exact hn184_1) | exact hn184_1) (.int .i64 t176)).trans hx184_0; replace hx184_0 := (cell_far (p := ⟨gb166, 2, none⟩) (by first | (rw [add_block]; exact hn184_2) | (show (Addr.add _ _).block ≠ _; rw [add_block]; exact hn184_2) | exact hn184_2) (.int .i64 t177)).trans hx184_0; replace hx184_0 := (cell_far (p := ⟨gb166, 3, none⟩) (by first | (rw [add_block]; exact hn184_3) | (show (Addr.add _ _).block ≠ _; rw [add_block]; exact hn184_3) | exact hn184_3) (.int .i64 t178)).trans hx184_0; clear hn184_0; clear hn184_1; clear hn184_2; clear hn184_3; replace p184 := eq_true p184; replace q184 := eq_true q184) | ((with_reducible refine gate_dst (N := 94) rfl ?_); (try (refine gate_guard (by rfl) ?_; dsimp only)); refine Kd.R_lit (Kd.int .u8) _ 5 ?hg (N := 94) ?hd (xs := ([7] : List Int)) (inner := [.int .u8 7]) (ok := fun _ => True) (okp := fun _ => True) ?hr ?hp (fun _ hk => hk) trivial (Below.refl _ _) (Nat.le_refl _) (by simp) ?_; (case hd => rfl); (case hg => rfl); (case hr => first | (go_simp; done) | (go_simp; rfl)); (case hp => exact (Reps.one (show Kd.M (Kd.int .u8) _ _ _ 7 [.int .u8 7] from rfl) (Reps.none _ _))); intro v186 w57 ho58 hb hg_ hnew_; clear hg_ hnew_; (first | rw [← Ny185.out] at ho58 | (simp only [Int.reduceToNat] at ho58; rw [← Ny185.out] at ho58)); have n0_ := Aside0.mk (Kd.R_elder' (by (with_reducible repeat (first | apply Kd.R_alloc | apply Kd.R_drewN | apply Kd.R_drew)); exact (Kd.R_mono (Kd.R_far (p := ⟨gb166, 3, none⟩) (Kd.R_far (p := ⟨gb166, 2, none⟩) (Kd.R_far (p := ⟨gb166, 1, none⟩) (Kd.R_far (p := ⟨gb166, 0, none⟩) (Kd.R_types HO_1.out BK166.out (by decide)) (fun _ hk => hk.2) (.bool t175)) (fun _ hk => hk.2) (.int .i64 t176)) (fun _ hk => hk.2) (.int .i64 t177)) (fun _ hk => hk.2) (.int .i64 t178)) (fun _ h_ => h_.1))) (Kd.R_base ho58) hb); have n1_ := Aside0.mk (Kd.R_elder' (by (with_reducible repeat (first | apply Kd.R_alloc | apply Kd.R_drewN | apply Kd.R_drew)); exact (Kd.R_mono (Kd.R_far (p := ⟨gb166, 3, none⟩) (Kd.R_far (p := ⟨gb166, 2, none⟩) (Kd.R_far (p := ⟨gb166, 1, none⟩) (Kd.R_far (p := ⟨gb166, 0, none⟩) (Kd.R_types HO_3.out BK166.out (by decide)) (fun _ hk => hk.2) (.bool t175)) (fun _ hk => hk.2) (.int .i64 t176)) (fun _ hk => hk.2) (.int .i64 t177)) (fun _ hk => hk.2) (.int .i64 t178)) (fun _ h_ => h_.1))) (Kd.R_base ho58) hb); have n2_ := Aside0.mk (Kd.R_elder' (by (with_reducible repeat (first | apply Kd.R_alloc | apply Kd.R_drewN | apply Kd.R_drew)); exact (Kd.R_mono (Kd.R_far (p := ⟨gb166, 3, none⟩) (Kd.R_far (p := ⟨gb166, 2, none⟩) (Kd.R_far (p := ⟨gb166, 1, none⟩) (Kd.R_far (p := ⟨gb166, 0, none⟩) (Kd.R_types HO148.out BK166.out (by decide)) (fun _ hk => hk.2) (.bool t175)) (fun _ hk => hk.2) (.int .i64 t176)) (fun _ hk => hk.2) (.int .i64 t177)) (fun _ hk => hk.2) (.int .i64 t178)) (fun _ h_ => h_.1))) (Kd.R_base ho58) hb); have n3_ := Aside0.mk (Kd.R_elder' (by (with_reducible repeat (first | apply Kd.R_alloc | apply Kd.R_drewN | apply Kd.R_drew)); exact (Kd.R_mono (Kd.R_far (p := ⟨gb166, 3, none⟩) (Kd.R_far (p := ⟨gb166, 2, none⟩) (Kd.R_far (p := ⟨gb166, 1, none⟩) (Kd.R_far (p := ⟨gb166, 0, none⟩) (Kd.R_types HO153.out BK166.out (by decide)) (fun _ hk => hk.2) (.bool t175)) (fun _ hk => hk.2) (.int .i64 t176)) (fun _ hk => hk.2) (.int .i64 t177)) (fun _ hk => hk.2) (.int .i64 t178)) (fun _ h_ => h_.1))) (Kd.R_base ho58) hb); have n4_ := Aside0.mk (Kd.R_elder' (by (with_reducible repeat (first | apply Kd.R_alloc | apply Kd.R_drewN | apply Kd.R_drew)); exact (Kd.R_mono (Kd.R_far (p := ⟨gb166, 3, none⟩) (Kd.R_far (p := ⟨gb166, 2, none⟩) (Kd.R_far (p := ⟨gb166, 1, none⟩) (Kd.R_far (p := ⟨gb166, 0, none⟩) (Kd.R_types HO164.out BK166.out (by decide)) (fun _ hk => hk.2) (.bool t175)) (fun _ hk => hk.2) (.int .i64 t176)) (fun _ hk => hk.2) (.int .i64 t177)) (fun _ hk => hk.2) (.int .i64 t178)) (fun _ h_ => h_.1))) (Kd.R_base ho58) hb); have n5_ := Aside0.mk (Kd.R_elder' (by (with_reducible repeat (first | apply Kd.R_alloc | apply Kd.R_drewN | apply Kd.R_drew)); exact (Kd.R_mono (Kd.R_far (p := ⟨gb166, 3, none⟩) (Kd.R_far (p := ⟨gb166, 2, none⟩) (Kd.R_far (p := ⟨gb166, 1, none⟩) (Kd.R_far (p := ⟨gb166, 0, none⟩) (Kd.R_types HO173.out BK166.out (by decide)) (fun _ hk => hk.2) (.bool t175)) (fun _ hk => hk.2) (.int .i64 t176)) (fun _ hk => hk.2) (.int .i64 t177)) (fun _ hk => hk.2) (.int .i64 t178)) (fun _ h_ => h_.1))) (Kd.R_base ho58) hb); have n6_ := Aside0.mk (Kd.R_elder' (by (with_reducible repeat (first | apply Kd.R_alloc | apply Kd.R_drewN | apply Kd.R_drew)); exact (Kd.R_mono (Kd.R_far (p := ⟨gb166, 3, none⟩) (Kd.R_far (p := ⟨gb166, 2, none⟩) (Kd.R_far (p := ⟨gb166, 1, none⟩) (Kd.R_far (p := ⟨gb166, 0, none⟩) (Kd.R_types HO181.out BK166.out (by decide)) (fun _ hk => hk.2) (.bool t175)) (fun _ hk => hk.2) (.int .i64 t176)) (fun _ hk => hk.2) (.int .i64 t177)) (fun _ hk => hk.2) (.int .i64 t178)) (fun _ h_ => h_.1))) (Kd.R_base ho58) hb); have n7_ := Aside0.mk (Kd.R_lower (Kd.R_new' (Kd.R_new' (Kd.R_new' (Kd.R_new' (Kd.R_new' (Kd.R_new' (Kd.R_new' ho58 (Kd.R_lt (by (with_reducible repeat (first | apply Kd.R_alloc | apply Kd.R_drewN | apply Kd.R_drew)); exact (Kd.R_mono (Kd.R_far (p := ⟨gb166, 3, none⟩) (Kd.R_far (p := ⟨gb166, 2, none⟩) (Kd.R_far (p := ⟨gb166, 1, none⟩) (Kd.R_far (p := ⟨gb166, 0, none⟩) (Kd.R_types HO_1.out BK166.out (by decide)) (fun _ hk => hk.2) (.bool t175)) (fun _ hk => hk.2) (.int .i64 t176)) (fun _ hk => hk.2) (.int .i64 t177)) (fun _ hk => hk.2) (.int .i64 t178)) (fun _ h_ => h_.1))))) (Kd.R_lt (by (with_reducible repeat (first | apply Kd.R_alloc | apply Kd.R_drewN | apply Kd.R_drew)); exact (Kd.R_mono (Kd.R_far (p := ⟨gb166, 3, none⟩) (Kd.R_far (p := ⟨gb166, 2, none⟩) (Kd.R_far (p := ⟨gb166, 1, none⟩) (Kd.R_far (p := ⟨gb166, 0, none⟩) (Kd.R_types HO_3.out BK166.out (by decide)) (fun _ hk => hk.2) (.bool t175)) (fun _ hk => hk.2) (.int .i64 t176)) (fun _ hk => hk.2) (.int .i64 t177)) (fun _ hk => hk.2) (.int .i64 t178)) (fun _ h_ => h_.1))))) (Kd.R_lt (by (with_reducible repeat (first | apply Kd.R_alloc | apply Kd.R_drewN | apply Kd.R_drew)); exact (Kd.R_mono (Kd.R_far (p := ⟨gb166, 3, none⟩) (Kd.R_far (p := ⟨gb166, 2, none⟩) (Kd.R_far (p := ⟨gb166, 1, none⟩) (Kd.R_far (p := ⟨gb166, 0, none⟩) (Kd.R_types HO148.out BK166.out (by decide)) (fun _ hk => hk.2) (.bool t175)) (fun _ hk => hk.2) (.int .i64 t176)) (fun _ hk => hk.2) (.int .i64 t177)) (fun _ hk => hk.2) (.int .i64 t178)) (fun _ h_ => h_.1))))) (Kd.R_lt (by (with_reducible repeat (first | apply Kd.R_alloc | apply Kd.R_drewN | apply Kd.R_drew)); exact (Kd.R_mono (Kd.R_far (p := ⟨gb166, 3, none⟩) (Kd.R_far (p := ⟨gb166, 2, none⟩) (Kd.R_far (p := ⟨gb166, 1, none⟩) (Kd.R_far (p := ⟨gb166, 0, none⟩) (Kd.R_types HO153.out BK166.out (by decide)) (fun _ hk => hk.2) (.bool t175)) (fun _ hk => hk.2) (.int .i64 t176)) (fun _ hk => hk.2) (.int .i64 t177)) (fun _ hk => hk.2) (.int .i64 t178)) (fun _ h_ => h_.1))))) (Kd.R_lt (by (with_reducible repeat (first | apply Kd.R_alloc | apply Kd.R_drewN | apply Kd.R_drew)); exact (Kd.R_mono (Kd.R_far (p := ⟨gb166, 3, none⟩) (Kd.R_far (p := ⟨gb166, 2, none⟩) (Kd.R_far (p := ⟨gb166, 1, none⟩) (Kd.R_far (p := ⟨gb166, 0, none⟩) (Kd.R_types HO164.out BK166.out (by decide)) (fun _ hk => hk.2) (.bool t175)) (fun _ hk => hk.2) (.int .i64 t176)) (fun _ hk => hk.2) (.int .i64 t177)) (fun _ hk => hk.2) (.int .i64 t178)) (fun _ h_ => h_.1))))) (Kd.R_lt (by (with_reducible repeat (first | apply Kd.R_alloc | apply Kd.R_drewN | apply Kd.R_drew)); exact (Kd.R_mono (Kd.R_far (p := ⟨gb166, 3, none⟩) (Kd.R_far (p := ⟨gb166, 2, none⟩) (Kd.R_far (p := ⟨gb166, 1, none⟩) (Kd.R_far (p := ⟨gb166, 0, none⟩) (Kd.R_types HO173.out BK166.out (by decide)) (fun _ hk => hk.2) (.bool t175)) (fun _ hk => hk.2) (.int .i64 t176)) (fun _ hk => hk.2) (.int .i64 t177)) (fun _ hk => hk.2) (.int .i64 t178)) (fun _ h_ => h_.1))))) (Kd.R_lt (by (with_reducible repeat (first | apply Kd.R_alloc | apply Kd.R_drewN | apply Kd.R_drew)); exact (Kd.R_mono (Kd.R_far (p := ⟨gb166, 3, none⟩) (Kd.R_far (p := ⟨gb166, 2, none⟩) (Kd.R_far (p := ⟨gb166, 1, none⟩) (Kd.R_far (p := ⟨gb166, 0, none⟩) (Kd.R_types HO181.out BK166.out (by decide)) (fun _ hk => hk.2) (.bool t175)) (fun _ hk => hk.2) (.int .i64 t176)) (fun _ hk => hk.2) (.int .i64 t177)) (fun _ hk => hk.2) (.int .i64 t178)) (fun _ h_ => h_.1))))) (below_size (by repeat (first | (with_reducible first | exact HB.out | apply below_alloc | apply pw_below_drewN | apply below_drew1 | refine below_set ?_ GE166.out) | exact HB.out)))); have n8_ := Aside0.mk (blk_below (g := gb166) (o := .cells #[.bool t175, .int .i64 t176, .int .i64 t177, .int .i64 t178] 24 (0, 0)) (by (with_reducible repeat (first | refine blk_drewN ?_ _ | refine blk_drew ?_ | refine blk_alloc ?_ _)); refine blk_put (cs := #[.bool t175, .int .i64 t176, .int .i64 t177, .int .i64 t170]) ?_ 3 _ rfl; (with_reducible repeat (first | refine blk_drewN ?_ _ | refine blk_drew ?_ | refine blk_alloc ?_ _)); refine blk_put (cs := #[.bool t175, .int .i64 t176, .int .i64 t169, .int .i64 t170]) ?_ 2 _ rfl; (with_reducible repeat (first | refine blk_drewN ?_ _ | refine blk_drew ?_ | refine blk_alloc ?_ _)); refine blk_put (cs := #[.bool t175, .int .i64 t168, .int .i64 t169, .int .i64 t170]) ?_ 1 _ rfl; (with_reducible repeat (first | refine blk_drewN ?_ _ | refine blk_drew ?_ | refine blk_alloc ?_ _)); refine blk_put (cs := #[.bool t167, .int .i64 t168, .int .i64 t169, .int .i64 t170]) ?_ 0 _ rfl; (with_reducible repeat (first | refine blk_drewN ?_ _ | refine blk_drew ?_ | refine blk_alloc ?_ _)); exact BK166.out) hb); have n9_ := Aside0.mk (below_step (by repeat (first | (with_reducible first | exact HB.out | apply below_alloc | apply pw_below_drewN | apply below_drew1 | refine below_set ?_ GE166.out) | exact HB.out)) hb); clear HO_1; clear HO_3; clear HO148; clear HO153; clear HO164; clear HO173; clear HO181; clear BK166; clear HB; have HO_1 := n0_; have HO_3 := n1_; have HO148 := n2_; have HO153 := n3_; have HO164 := n4_; have HO173 := n5_; have HO181 := n6_; have HO187 := n7_; have BK166 := n8_; have HB := n9_; clear n0_ n1_ n2_ n3_ n4_ n5_ n6_ n7_ n8_ n9_; clear hb ho58; obtain ⟨Ao59, co59, eo59⟩ := Kd.R_slice HO148.out; subst eo59; obtain ⟨Ao60, co60, eo60⟩ := Kd.R_slice HO187.out; subst eo60) | (go_at_call 15; (with_reducible refine (phaetonref01_SameBytes.calls _ _ t144 _ _ y185 true _ ?side1 ?side2 ?side3 ?side4 A31.out).mono ?_); (case side1 => repeat (first | exact (Kd.R_reads' HO148.out).2.2 | (with_reducible refine Kd.C_alloc ?_ _) | (with_reducible refine Kd.C_drewN ?_ _) | (with_reducible refine Kd.C_drew ?_))); (case side2 => exact (Kd.R_reads' HO148.out).2.1); (case side3 => repeat (first | exact (Kd.R_reads' HO187.out).2.2 | (with_reducible refine Kd.C_alloc ?_ _) | (with_reducible refine Kd.C_drewN ?_ _) | (with_reducible refine Kd.C_drew ?_))); (case side4 => exact (Kd.R_reads' HO187.out).2.1); rintro e w' ⟨rfl, ⟨nd, rfl⟩⟩) | ((with_reducible refine gate_dst (N := 110) rfl ?_); (try (refine gate_guard (by rfl) ?_; dsimp only)); refine Kd.R_lit (Kd.int .u8) _ 5 ?hg (N := 110) ?hd (xs := ([7] : List Int)) (inner := [.int .u8 7]) (ok := fun _ => True) (okp := fun _ => True) ?hr ?hp (fun _ hk => hk) trivial (Below.refl _ _) (Nat.le_refl _) (by simp) ?_; (case hd => rfl); (case hg => rfl); (case hr => first | (go_simp; done) | (go_simp; rfl)); (case hp => exact (Reps.one (show Kd.M (Kd.int .u8) _ _ _ 7 [.int .u8 7] from rfl) (Reps.none _ _))); intro v190 w61 ho62 hb hg_ hnew_; clear hg_ hnew_; (first | rw [← Ny189.out] at ho62 | (simp only [Int.reduceToNat] at ho62; rw [← Ny189.out] at ho62)); have n0_ := Aside0.mk (Kd.R_elder' (by (with_reducible repeat (first | apply Kd.R_alloc | apply Kd.R_drewN | apply Kd.R_drew)); exact HO_1.out) (Kd.R_base ho62) hb); have n1_ := Aside0.mk (Kd.R_elder' (by (with_reducible repeat (first | apply Kd.R_alloc | apply Kd.R_drewN | apply Kd.R_drew)); exact HO_3.out) (Kd.R_base ho62) hb); have n2_ := Aside0.mk (Kd.R_elder' (by (with_reducible repeat (first | apply Kd.R_alloc | apply Kd.R_drewN | apply Kd.R_drew)); exact HO148.out) (Kd.R_base ho62) hb); have n3_ := Aside0.mk (Kd.R_elder' (by (with_reducible repeat (first | apply Kd.R_alloc | apply Kd.R_drewN | apply Kd.R_drew)); exact HO153.out) (Kd.R_base ho62) hb); have n4_ := Aside0.mk (Kd.R_elder' (by (with_reducible repeat (first | apply Kd.R_alloc | apply Kd.R_drewN | apply Kd.R_drew)); exact HO164.out) (Kd.R_base ho62) hb); have n5_ := Aside0.mk (Kd.R_elder' (by (with_reducible repeat (first | apply Kd.R_alloc | apply Kd.R_drewN | apply Kd.R_drew)); exact HO173.out) (Kd.R_base ho62) hb); have n6_ := Aside0.mk (Kd.R_elder' (by (with_reducible repeat (first | apply Kd.R_alloc | apply Kd.R_drewN | apply Kd.R_drew)); exact HO181.out) (Kd.R_base ho62) hb); have n7_ := Aside0.mk (Kd.R_elder' (by (with_reducible repeat (first | apply Kd.R_alloc | apply Kd.R_drewN | apply Kd.R_drew)); exact HO187.out) (Kd.R_base ho62) hb); have n8_ := Aside0.mk (Kd.R_lower (Kd.R_new' (Kd.R_new' (Kd.R_new' (Kd.R_new' (Kd.R_new' (Kd.R_new' (Kd.R_new' (Kd.R_new' ho62 (Kd.R_lt (by (with_reducible repeat (first | apply Kd.R_alloc | apply Kd.R_drewN | apply Kd.R_drew)); exact HO_1.out))) (Kd.R_lt (by (with_reducible repeat (first | apply Kd.R_alloc | apply Kd.R_drewN | apply Kd.R_drew)); exact HO_3.out))) (Kd.R_lt (by (with_reducible repeat (first | apply Kd.R_alloc | apply Kd.R_drewN | apply Kd.R_drew)); exact HO148.out))) (Kd.R_lt (by (with_reducible repeat (first | apply Kd.R_alloc | apply Kd.R_drewN | apply Kd.R_drew)); exact HO153.out))) (Kd.R_lt (by (with_reducible repeat (first | apply Kd.R_alloc | apply Kd.R_drewN | apply Kd.R_drew)); exact HO164.out))) (Kd.R_lt (by (with_reducible repeat (first | apply Kd.R_alloc | apply Kd.R_drewN | apply Kd.R_drew)); exact HO173.out))) (Kd.R_lt (by (with_reducible repeat (first | apply Kd.R_alloc | apply Kd.R_drewN | apply Kd.R_drew)); exact HO181.out))) (Kd.R_lt (by (with_reducible repeat (first | apply Kd.R_alloc | apply Kd.R_drewN | apply Kd.R_drew)); exact HO187.out))) (below_size (by repeat (first | (with_reducible first | exact HB.out | apply below_alloc | apply pw_below_drewN | apply below_drew1 | refine below_set ?_ GE166.out) | exact HB.out)))); have n9_ := Aside0.mk (blk_below (g := gb166) (o := .cells #[.bool t175, .int .i64 t176, .int .i64 t177, .int .i64 t178] 24 (0, 0)) (by (with_reducible repeat (first | refine blk_drewN ?_ _ | refine blk_drew ?_ | refine blk_alloc ?_ _)); exact BK166.out) hb); have n10_ := Aside0.mk (below_step (by repeat (first | (with_reducible first | exact HB.out | apply below_alloc | apply pw_below_drewN | apply below_drew1 | refine below_set ?_ GE166.out) | exact HB.out)) hb); clear HO_1; clear HO_3; clear HO148; clear HO153; clear HO164; clear HO173; clear HO181; clear HO187; clear BK166; clear HB; have HO_1 := n0_; have HO_3 := n1_; have HO148 := n2_; have HO153 := n3_; have HO164 := n4_; have HO173 := n5_; have HO181 := n6_; have HO187 := n7_; have HO191 := n8_; have BK166 := n9_; have HB := n10_; clear n0_ n1_ n2_ n3_ n4_ n5_ n6_ n7_ n8_ n9_ n10_; clear hb ho62; obtain ⟨Ao63, co63, eo63⟩ := Kd.R_slice HO164.out; subst eo63; obtain ⟨Ao64, co64, eo64⟩ := Kd.R_slice HO191.out; subst eo64) | (go_at_call 15; (with_reducible refine (phaetonref01_SameBytes.calls _ _ t162 _ _ y189 true _ ?side1 ?side2 ?side3 ?side4 A36.out).mono ?_); (case side1 => repeat (first | exact (Kd.R_reads' HO164.out).2.2 | (with_reducible refine Kd.C_alloc ?_ _) | (with_reducible refine Kd.C_drewN ?_ _) | (with_reducible refine Kd.C_drew ?_))); (case side2 => exact (Kd.R_reads' HO164.out).2.1); (case side3 => repeat (first | exact (Kd.R_reads' HO191.out).2.2 | (with_reducible refine Kd.C_alloc ?_ _) | (with_reducible refine Kd.C_drewN ?_ _) | (with_reducible refine Kd.C_drew ?_))); (case side4 => exact (Kd.R_reads' HO191.out).2.1); rintro e w' ⟨rfl, ⟨nd, rfl⟩⟩) | ((with_reducible refine gate_dst (N := 119) rfl ?_); (try (refine gate_guard (by rfl) ?_; dsimp only)); refine Kd.R_lit (Kd.int .u8) _ 5 ?hg (N := 119) ?hd (xs := ([8] : List Int)) (inner := [.int .u8 8]) (ok := fun _ => True) (okp := fun _ => True) ?hr ?hp (fun _ hk => hk) trivial (Below.refl _ _) (Nat.le_refl _) (by simp) ?_; (case hd => rfl); (case hg => rfl); (case hr => first | (go_simp; done) | (go_simp; rfl)); (case hp => exact (Reps.one (show Kd.M (Kd.int .u8) _ _ _ 8 [.int .u8 8] from rfl) (Reps.none _ _))); intro v194 w65 ho66 hb hg_ hnew_; clear hg_ hnew_; (first | rw [← Ny193.out] at ho66 | (simp only [Int.reduceToNat] at ho66; rw [← Ny193.out] at ho66)); have n0_ := Aside0.mk (Kd.R_elder' (by (with_reducible repeat (first | apply Kd.R_alloc | apply Kd.R_drewN | apply Kd.R_drew)); exact HO_1.out) (Kd.R_base ho66) hb); have n1_ := Aside0.mk (Kd.R_elder' (by (with_reducible repeat (first | apply Kd.R_alloc | apply Kd.R_drewN | apply Kd.R_drew)); exact HO_3.out) (Kd.R_base ho66) hb); have n2_ := Aside0.mk (Kd.R_elder' (by (with_reducible repeat (first | apply Kd.R_alloc | apply Kd.R_drewN | apply Kd.R_drew)); exact HO148.out) (Kd.R_base ho66) hb); have n3_ := Aside0.mk (Kd.R_elder' (by (with_reducible repeat (first | apply Kd.R_alloc | apply Kd.R_drewN | apply Kd.R_drew)); exact HO153.out) (Kd.R_base ho66) hb); have n4_ := Aside0.mk (Kd.R_elder' (by (with_reducible repeat (first | apply Kd.R_alloc | apply Kd.R_drewN | apply Kd.R_drew)); exact HO164.out) (Kd.R_base ho66) hb); have n5_ := Aside0.mk (Kd.R_elder' (by (with_reducible repeat (first | apply Kd.R_alloc | apply Kd.R_drewN | apply Kd.R_drew)); exact HO173.out) (Kd.R_base ho66) hb); have n6_ := Aside0.mk (Kd.R_elder' (by (with_reducible repeat (first | apply Kd.R_alloc | apply Kd.R_drewN | apply Kd.R_drew)); exact HO181.out) (Kd.R_base ho66) hb); have n7_ := Aside0.mk (Kd.R_elder' (by (with_reducible repeat (first | apply Kd.R_alloc | apply Kd.R_drewN | apply Kd.R_drew)); exact HO187.out) (Kd.R_base ho66) hb); have n8_ := Aside0.mk (Kd.R_elder' (by (with_reducible repeat (first | apply Kd.R_alloc | apply Kd.R_drewN | apply Kd.R_drew)); exact HO191.out) (Kd.R_base ho66) hb); have n9_ := Aside0.mk (Kd.R_lower (Kd.R_new' (Kd.R_new' (Kd.R_new' (Kd.R_new' (Kd.R_new' (Kd.R_new' (Kd.R_new' (Kd.R_new' (Kd.R_new' ho66 (Kd.R_lt (by (with_reducible repeat (first | apply Kd.R_alloc | apply Kd.R_drewN | apply Kd.R_drew)); exact HO_1.out))) (Kd.R_lt (by (with_reducible repeat (first | apply Kd.R_alloc | apply Kd.R_drewN | apply Kd.R_drew)); exact HO_3.out))) (Kd.R_lt (by (with_reducible repeat (first | apply Kd.R_alloc | apply Kd.R_drewN | apply Kd.R_drew)); exact HO148.out))) (Kd.R_lt (by (with_reducible repeat (first | apply Kd.R_alloc | apply Kd.R_drewN | apply Kd.R_drew)); exact HO153.out))) (Kd.R_lt (by (with_reducible repeat (first | apply Kd.R_alloc | apply Kd.R_drewN | apply Kd.R_drew)); exact HO164.out))) (Kd.R_lt (by (with_reducible repeat (first | apply Kd.R_alloc | apply Kd.R_drewN | apply Kd.R_drew)); exact HO173.out))) (Kd.R_lt (by (with_reducible repeat (first | apply Kd.R_alloc | apply Kd.R_drewN | apply Kd.R_drew)); exact HO181.out))) (Kd.R_lt (by (with_reducible repeat (first | apply Kd.R_alloc | apply Kd.R_drewN | apply Kd.R_drew)); exact HO187.out))) (Kd.R_lt (by (with_reducible repeat (first | apply Kd.R_alloc | apply Kd.R_drewN | apply Kd.R_drew)); exact HO191.out))) (below_size (by repeat (first | (with_reducible first | exact HB.out | apply below_alloc | apply pw_below_drewN | apply below_drew1 | refine below_set ?_ GE166.out) | exact HB.out)))); have n10_ := Aside0.mk (blk_below (g := gb166) (o := .cells #[.bool t175, .int .i64 t176, .int .i64 t177, .int .i64 t178] 24 (0, 0)) (by (with_reducible repeat (first | refine blk_drewN ?_ _ | refine blk_drew ?_ | refine blk_alloc ?_ _)); exact BK166.out) hb); have n11_ := Aside0.mk (below_step (by repeat (first | (with_reducible first | exact HB.out | apply below_alloc | apply pw_below_drewN | apply below_drew1 | refine below_set ?_ GE166.out) | exact HB.out)) hb); clear HO_1; clear HO_3; clear HO148; clear HO153; clear HO164; clear HO173; clear HO181; clear HO187; clear HO191; clear BK166; clear HB; have HO_1 := n0_; have HO_3 := n1_; have HO148 := n2_; have HO153 := n3_; have HO164 := n4_; have HO173 := n5_; have HO181 := n6_; have HO187 := n7_; have HO191 := n8_; have HO195 := n9_; have BK166 := n10_; have HB := n11_; clear n0_ n1_ n2_ n3_ n4_ n5_ n6_ n7_ n8_ n9_ n10_ n11_; clear hb ho66; obtain ⟨Ao67, co67, eo67⟩ := Kd.R_slice HO173.out; subst eo67; obtain ⟨Ao68, co68, eo68⟩ := Kd.R_slice HO195.out; subst eo68) | (go_at_call 15; (with_reducible refine (phaetonref01_SameBytes.calls _ _ t171 _ _ y193 true _ ?side1 ?side2 ?side3 ?side4 A39.out).mono ?_); (case side1 => repeat (first | exact (Kd.R_reads' HO173.out).2.2 | (with_reducible refine Kd.C_alloc ?_ _) | (with_reducible refine Kd.C_drewN ?_ _) | (with_reducible refine Kd.C_drew ?_))); (case side2 => exact (Kd.R_reads' HO173.out).2.1); (case side3 => repeat (first | exact (Kd.R_reads' HO195.out).2.2 | (with_reducible refine Kd.C_alloc ?_ _) | (with_reducible refine Kd.C_drewN ?_ _) | (with_reducible refine Kd.C_drew ?_))); (case side4 => exact (Kd.R_reads' HO195.out).2.1); rintro e w' ⟨rfl, ⟨nd, rfl⟩⟩; obtain ⟨Ao69, co69, eo69⟩ := Kd.R_slice HO181.out; subst eo69; have hcz70_0 : w65.cell? ⟨gb166, 0, none⟩ = some (.bool t175) := (blk_cell BK166.out 0).trans rfl; have hcz70_1 : w65.cell? ⟨gb166, 1, none⟩ = some (.int .i64 t176) := (blk_cell BK166.out 1).trans rfl; have hcz70_2 : w65.cell? ⟨gb166, 2, none⟩ = some (.int .i64 t177) := (blk_cell BK166.out 2).trans rfl; have hcz70_3 : w65.cell? ⟨gb166, 3, none⟩ = some (.int .i64 t178) := (blk_cell BK166.out 3).trans rfl; have hfz70_0 := blk_frozen BK166.out 0; have hfz70_1 := blk_frozen BK166.out 1; have hfz70_2 := blk_frozen BK166.out 2; have hfz70_3 := blk_frozen BK166.out 3))
                                          go_ret
                                          exact ⟨by first | rfl | (simp [errW_none, errW_some] <;> rfl) | (simp [*, errW_none, errW_some] <;> rfl), by repeat (first | (with_reducible first | exact HB.out | apply below_alloc | apply pw_below_drewN | apply below_drew1 | refine below_set ?_ GE166.out) | exact HB.out)⟩
                                        · rw [if_neg c44] at H
                                          exact absurd H (by simp)
                                      · rw [if_neg c43] at H
                                        exact absurd H (by simp)
                                    · rw [if_neg c42] at H
                                      exact absurd H (by simp)
                                  · rw [if_neg c41] at H
                                    exact absurd H (by simp)
                                · replace c40 := Bool.eq_false_iff.mpr c40
                                  subst c40
                                  have H1 : (none) = some r := by rw [if_neg (show ¬ (false = true) by decide)] at H; exact H
                                  clear H
                                  have H := H1
                                  clear H1
                                  exact absurd H (by simp)
                              · rw [if_neg c38] at H
                                exact absurd H (by simp)
                            · replace c37 := Bool.eq_false_iff.mpr c37
                              subst c37
                              have H1 : (none) = some r := by rw [if_neg (show ¬ (false = true) by decide)] at H; exact H
                              clear H
                              have H := H1
                              clear H1
                              exact absurd H (by simp)
                        · replace c34 := Bool.eq_false_iff.mpr c34
                          subst c34
                          have H1 : (none) = some r := by rw [if_neg (show ¬ (false = true) by decide)] at H; exact H
                          clear H
                          have H := H1
                          clear H1
                          exact absurd H (by simp)
                      · rw [if_neg c33] at H
                        exact absurd H (by simp)
                    · replace c32 := Bool.eq_false_iff.mpr c32
                      subst c32
                      have H1 : (none) = some r := by rw [if_neg (show ¬ (false = true) by decide)] at H; exact H
                      clear H
                      have H := H1
                      clear H1
                      exact absurd H (by simp)
                  · rw [if_neg c30] at H
                    exact absurd H (by simp)
                · rw [if_neg c29] at H
                  exact absurd H (by simp)
              · rw [if_neg c28] at H
                exact absurd H (by simp)
            · rw [if_neg c27] at H
              exact absurd H (by simp)
        · replace c25 := Bool.eq_false_iff.mpr c25
          subst c25
          have H1 : (none) = some r := by rw [if_neg (show ¬ (false = true) by decide)] at H; exact H
          clear H
          have H := H1
          clear H1
          exact absurd H (by simp)

end Go.Proofs.Ytfjffajmagefkaa.Px

-- Written by myprint.py, a program of this session's, over the kit's print.py; not a text of print.sh's own.
import Derived.Test.YthgeekcobmhbfaaPx0
import Derived.Test.YthgeekcobmhbfaaPx2
import Derived.Test.YthgeekcobmhbfaaPx6
import Derived.Test.YthgeekcobmhbfaaPx7
namespace Go.Proofs.Ythgeekcobmhbfaa.Px
open Go.RowKit Go.Proofs.YthgeekcobmhbfaaW.PrintWords Go.Proofs.YthgeekcobmhbfaaW.PrintLast Go.Proofs.YthgeekcobmhbfaaW.PrintMore
attribute [local go_sem] max2_int min2_int max_two min_two max_three min_three max_four min_four   -- for this text's walks alone
set_option linter.unusedVariables false
set_option linter.unusedSimpArgs false

/-! ### wire_ear_hear: helper -/
/-- What an ear leaves alone: every block that is no row of ints and no ear. -/
def ear_Keep (w w' : World) : Prop := w.heap.size ≤ w'.heap.size ∧ ∀ (k : Nat) (cells : Array Value) (t : Nat), w.heap[k]? = some (.cells cells t (0, 0)) → t ≠ 3 → t ≠ 47 → w'.heap[k]? = some (.cells cells t (0, 0))
theorem ear_Keep.refl (w : World) : ear_Keep w w := ⟨Nat.le_refl _, fun _ _ _ h _ _ => h⟩
theorem ear_Keep.trans {w w1 w2 : World} (h : ear_Keep w w1) (k : ear_Keep w1 w2) : ear_Keep w w2 := ⟨Nat.le_trans h.1 k.1, fun i c t hb h1 h2 => k.2 i c t (h.2 i c t hb h1 h2) h1 h2⟩
theorem ear_Keep.below {w w1 w2 : World} (h : ear_Keep w w1) (hb : Below w1.heap.size w1 w2) : ear_Keep w w2 := ⟨Nat.le_trans h.1 hb.size, fun i c t hc h1 h2 => blk_below (h.2 i c t hc h1 h2) hb⟩
theorem ear_Keep.set {w w1 : World} (h : ear_Keep w w1) {g : Nat} {cells : Array Value} (hg : w1.heap[g]? = some (.cells cells 47 (0, 0))) (j : Nat) (u : Value) : ear_Keep w (w1.setCell ⟨g, j, none⟩ u) :=
  ⟨by have := h.1; simpa [World.setCell] using this, fun i c t hc h1 h2 => blk_far (h.2 i c t hc h1 h2) (p := ⟨g, j, none⟩) (blk_ne (h.2 i c t hc h1 h2) hg h2) u⟩
theorem ear_Keep.grown {w w1 w2 : World} (h : ear_Keep w w1) {B : Nat} {v : Value} {xs : List Int} (hr : Kd.R (Kd.int .i64) 3 w1 B (fun _ => True) v xs) (hg : w1.grownBy w2 v.ownBlock) : ear_Keep w w2 :=
  ⟨Nat.le_trans h.1 hg.size, fun i c t hc h1 h2 => blk_grown (h.2 i c t hc h1 h2) hg (Kd.R_ne hr (h.2 i c t hc h1 h2) (fun e => h1 e.symm))⟩
theorem ear_Keep.bytes {w w1 : World} (h : ear_Keep w w1) {B : Nat} {v : Value} {xs : List Int} (hr : Kd.R (Kd.int .u8) 5 w B (fun _ => True) v xs) : Kd.R (Kd.int .u8) 5 w1 B (fun _ => True) v xs := by
  refine Kd.R_mono (Kd.R_step (Kd.R_bound hr) (fun k hk _ => ?_)) (fun _ _ => trivial)
  obtain ⟨_, _, _, q, hq, cells, hc⟩ := hk
  obtain rfl : q = 5 := by
    rcases List.mem_cons.mp hq with e | hq
    · exact e
    · cases hq
  rw [hc]
  exact h.2 k cells _ hc (by decide) (by decide)
/-- An ear: its variable's block; the bits that it hears lie below B's world, those that it has are the call's own. -/
def ear_At (wk w : World) (g B : Nat) (A0 : Option Addr) (c0 : Nat) (l : List Int) (tt run : Int) (had : List Int) (at_ fault : Int) : Prop :=
  B ≤ g ∧ ∃ v, w.heap[g]? = some (.cells #[.slice A0 l.length c0, .int .i64 tt, .int .i64 run, v, .int .i64 at_, .int .i64 fault] 47 (0, 0)) ∧ Kd.R (Kd.int .i64) 3 w B (fun _ => True) v had ∧ ear_Keep wk w
theorem ear_At.below {wk w w1 : World} {g B : Nat} {A0 : Option Addr} {c0 : Nat} {l : List Int} {tt run : Int} {had : List Int} {at_ fault : Int} (h : ear_At wk w g B A0 c0 l tt run had at_ fault) (hb : Below w.heap.size w w1) : ear_At wk w1 g B A0 c0 l tt run had at_ fault := by
  obtain ⟨h0, v, h1, h2, h3⟩ := h
  exact ⟨h0, v, blk_below h1 hb, Kd.R_below h2 hb, h3.below hb⟩
theorem ear_types : ∀ q, q ∈ 3 :: (Kd.int .i64).E → q ≠ 47 := by
  intro q hq
  rcases List.mem_cons.mp hq with rfl | hq
  · decide
  · cases hq
theorem ear_At.drewN {wk w : World} {g B : Nat} {A0 : Option Addr} {c0 : Nat} {l : List Int} {tt run : Int} {had : List Int} {at_ fault : Int} (h : ear_At wk w g B A0 c0 l tt run had at_ fault) (n : Nat) : ear_At wk (w.drewN n) g B A0 c0 l tt run had at_ fault := h.below (pw_below_drewN (Below.refl _ _) n)
theorem ear_At.set1 {wk w : World} {g B : Nat} {A0 : Option Addr} {c0 : Nat} {l : List Int} {tt run : Int} {had : List Int} {at_ fault : Int} (h : ear_At wk w g B A0 c0 l tt run had at_ fault) (x : Int) : ear_At wk (w.setCell ⟨g, 1, none⟩ (.int .i64 x)) g B A0 c0 l x run had at_ fault := by
  obtain ⟨h0, v, hb, hR, hK⟩ := h
  exact ⟨h0, v, by simpa using blk_set hb 1 (.int .i64 x), Kd.R_set hR hb ear_types 1 _, hK.set hb _ _⟩
theorem ear_At.set2 {wk w : World} {g B : Nat} {A0 : Option Addr} {c0 : Nat} {l : List Int} {tt run : Int} {had : List Int} {at_ fault : Int} (h : ear_At wk w g B A0 c0 l tt run had at_ fault) (x : Int) : ear_At wk (w.setCell ⟨g, 2, none⟩ (.int .i64 x)) g B A0 c0 l tt x had at_ fault := by
  obtain ⟨h0, v, hb, hR, hK⟩ := h
  exact ⟨h0, v, by simpa using blk_set hb 2 (.int .i64 x), Kd.R_set hR hb ear_types 2 _, hK.set hb _ _⟩
theorem ear_At.ge {wk w : World} {g B : Nat} {A0 : Option Addr} {c0 : Nat} {l : List Int} {tt run : Int} {had : List Int} {at_ fault : Int} (h : ear_At wk w g B A0 c0 l tt run had at_ fault) : B ≤ g := h.1
set_option maxHeartbeats 1600000 in
set_option maxRecDepth 100000 in
theorem ear_wrong (g B : Nat) (A0 : Option Addr) (c0 : Nat) (l : List Int) (tt run : Int) (had : List Int) (at_ fault f a : Int) (wk w0 w : World) (h : ear_At wk w g B A0 c0 l tt run had at_ fault) (hB : Below B w0 w) :
    Calls Try.prog 53 #[.pointer (some ⟨g, 0, none⟩), .int .i64 f, .int .i64 a] w fun e w' => e = .returned (.bool false) ∧ ear_At wk w' g B A0 c0 l tt run had a f ∧ Below B w0 w' := by
  obtain ⟨h0, v, hb, hR, hK⟩ := h
  have HKK := Aside0.mk ((hK.set hb 5 (.int .i64 f)).set (blk_set hb 5 (.int .i64 f)) 4 (.int .i64 a))
  clear hK
  have d5 : w.cell? ⟨g, 5, none⟩ = some (.int .i64 fault) := (blk_cell hb 5).trans rfl
  have d4 : w.cell? ⟨g, 4, none⟩ = some (.int .i64 at_) := (blk_cell hb 4).trans rfl
  have e5 := blk_frozen hb 5
  have e4 := blk_frozen hb 4
  have HB_ := Aside0.mk hb
  have HR_ := Aside0.mk hR
  have HB0 := Aside0.mk hB
  have HG := Aside0.mk h0
  clear hb hR hB h0
  go_enter Try.func53, Try.ntmps53
  go_wp2
  go_ret
  refine ⟨rfl, ⟨HG.out, v, ?_, ?_, HKK.out⟩, ?_⟩
  · simpa using blk_set (blk_set HB_.out 5 (.int .i64 f)) 4 (.int .i64 a)
  · exact Kd.R_set (Kd.R_set HR_.out HB_.out ear_types 5 _) (blk_set HB_.out 5 _) ear_types 4 _
  · exact (HB0.out.setCell (p := ⟨g, 5, none⟩) HG.out _).setCell (p := ⟨g, 4, none⟩) HG.out _
/-- What an ear makes of one more bit: is it one, how far it is, the run, the bits that it has, the last one's place, what is wrong. -/
def hearT (l : List Int) : Nat → Nat → Int → List Int → Int → Int → Bool × Nat × Int × List Int × Int × Int
  | 0, tt, run, had, a, f => (false, tt, run, had, a, f)
  | k + 1, tt, run, had, a, f =>
    if tt < l.length then
      (if run = 5 then (if 0 < tt ∧ l.getD (tt - 1) 0 = l.getD tt 0 then (false, tt + 1, run, had, (tt : Int), 2) else hearT l k (tt + 1) 1 had a f)
       else (true, tt + 1, if 0 < tt ∧ l.getD (tt - 1) 0 = l.getD tt 0 then run + 1 else 1, had ++ [l.getD tt 0], (tt : Int), f))
    else (false, tt, run, had, (l.length : Int), 1)
theorem ear_world {P : Program} {C : Code} {Q : Exit → Act → World → Prop} {a : Act} {wk w w0 : World} {g B : Nat} {A0 : Option Addr} {c0 : Nat} {l : List Int} {tt run : Int} {had : List Int} {at_ fault : Int} (h : ear_At wk w g B A0 c0 l tt run had at_ fault) (hB : Below B w0 w) (k : ∀ w5, ear_At wk w5 g B A0 c0 l tt run had at_ fault → Below B w0 w5 → C.wp P Q a w5) : C.wp P Q a w := k w h hB
set_option maxHeartbeats 1600000 in
set_option maxRecDepth 100000 in
theorem ear_hear (g : Nat) (A0 : Option Addr) (c0 : Nat) (l : List Int) (tt : Nat) (run : Int) (had : List Int) (at_ fault : Int) (wk w0 w : World) (h : ear_At wk w g w0.heap.size A0 c0 l tt run had at_ fault) (hB : Below w0.heap.size w0 w) (hr : Kd.C (Kd.int .i64) w0 A0 l.length l) (hc : l.length ≤ c0)
    (htt : tt ≤ l.length) (hn : l.length ≤ 1000000) (hrun : 0 ≤ run ∧ run ≤ 5) (hhad : had.length ≤ 1000000) :
    Calls Try.prog 50 #[.pointer (some ⟨g, 0, none⟩)] w fun e w' => ∃ r, r = hearT l (l.length + 1 - tt) tt run had at_ fault ∧ e = .returned (.bool r.1) ∧ ear_At wk w' g w0.heap.size A0 c0 l r.2.1 r.2.2.1 r.2.2.2.1 r.2.2.2.2.1 r.2.2.2.2.2 ∧ Below w0.heap.size w0 w' := by
  have HE := Aside0.mk h
  have HB := Aside0.mk hB
  have HR := Aside0.mk hr
  have HC := Aside0.mk hc
  clear h hB hr hc
  go_enter Try.func50, Try.ntmps50
  go_wp2
  go_step3
  go_wp2
  go_step3
  go_wp2
  go_loopw [] (fun wr => ∃ (t2 : Nat) (r2 : Int), tt ≤ t2 ∧ t2 ≤ l.length ∧ (0 ≤ r2 ∧ r2 ≤ 5) ∧ Aside0 (ear_At wk wr g w0.heap.size A0 c0 l t2 r2 had at_ fault) ∧ Aside0 (Below w0.heap.size w0 wr) ∧ Aside0 (hearT l (l.length + 1 - tt) tt run had at_ fault = hearT l (l.length + 1 - t2) t2 r2 had at_ fault))
    (fun wr => match wr.cell? ⟨g, 1, none⟩ with | some (.int _ n) => l.length - n.toNat | _ => 0)
  case atStart => exact ⟨tt, run, Nat.le_refl _, htt, hrun, HE, HB, ⟨rfl⟩⟩
  case round =>
    clear HE HB
    obtain ⟨t2, r2, ht1, ht2, hr2, HE, HB, HQ⟩ := hrel
    obtain ⟨hg0, v, hbk, hRh, _⟩ := HE.out
    have d0 : wr.cell? ⟨g, 0, none⟩ = some (.slice A0 l.length c0) := (blk_cell hbk 0).trans rfl
    have d1 : wr.cell? ⟨g, 1, none⟩ = some (.int .i64 (t2 : Int)) := (blk_cell hbk 1).trans rfl
    have d2 : wr.cell? ⟨g, 2, none⟩ = some (.int .i64 r2) := (blk_cell hbk 2).trans rfl
    have f1 := blk_frozen hbk 1
    have f2 := blk_frozen hbk 2
    have f3 := blk_frozen hbk 3
    have f4 := blk_frozen hbk 4
    obtain ⟨A3, c3, hv⟩ := Kd.R_slice hRh
    subst hv
    have d3 : wr.cell? ⟨g, 3, none⟩ = some (.slice A3 had.length c3) := (blk_cell hbk 3).trans rfl
    have d4 : wr.cell? ⟨g, 4, none⟩ = some (.int .i64 at_) := (blk_cell hbk 4).trans rfl
    have HBK := Aside0.mk hbk
    have HRH := Aside0.mk hRh
    have HG0 := Aside0.mk hg0
    clear hbk hRh hg0
    by_cases hlt : t2 < l.length
    · have HRr := Kd.C_below HR.out HB.out
      obtain ⟨ad, e1, hx⟩ := Kd.at_int HRr (t2 : Int) (by omega) (by omega)
      subst e1
      have e2 : wrap64 ((t2 : Int) + 1) = ((t2 + 1 : Nat) : Int) := by unfold wrap64; omega
      have q1 : decide ((t2 : Int) < (l.length : Int)) = true := decide_eq_true (by omega)
      go_wp2
      go_quiet (fail)
      have HX := Aside0.mk hx
      by_cases h0 : t2 = 0
      · have q2 : decide ((0 : Int) < (t2 : Int)) = false := decide_eq_false (by omega)
        have q3 : decide (0 < t2) = false := decide_eq_false (by omega)
        have b4 : ((t2 : Int) < (l.length : Int)) = True := eq_true (by omega)
        rw [Int.toNat_natCast] at hx
        have H0 := Aside0.mk h0
        clear h0
        go_wp2
        go_quiet (fail)
        go_wp2
        · have h5 : r2 = 5 := by assumption
          have hna : ¬ (0 < t2 ∧ l.getD (t2 - 1) 0 = l.getD t2 0) := fun h => by have := H0.out; omega
          obtain ⟨k, hk⟩ : ∃ k, l.length + 1 - t2 = k + 1 := ⟨l.length - t2, by omega⟩
          have hT : hearT l (l.length + 1 - tt) tt run had at_ fault = hearT l (l.length + 1 - (t2 + 1)) (t2 + 1) 1 had at_ fault := by
            rw [HQ.out, hk, hearT, if_pos hlt, if_pos h5, if_neg hna, show l.length + 1 - (t2 + 1) = k by omega]
          go_roundw
          case rel => exact ⟨t2 + 1, 1, by omega, by omega, ⟨by decide, by decide⟩, ⟨by rw [show ((t2 + 1 : Nat) : Int) = (t2 : Int) + 1 by omega]; exact ((HE.out.drewN _).set1 _).set2 _⟩, ⟨((pw_below_drewN HB.out _).setCell (p := ⟨g, 1, none⟩) HG0.out _).setCell (p := ⟨g, 2, none⟩) HG0.out _⟩, ⟨hT⟩⟩
          case measure =>
            have hb2 := fun n : Nat => blk_cell (blk_set (blk_set (w := wr.drewN n) HBK.out 1 (.int .i64 ((t2 : Int) + 1))) 2 (.int .i64 1)) 1
            rw [d1, hb2]
            show l.length - ((t2 : Int) + 1).toNat < l.length - (t2 : Int).toNat
            omega
        · refine ear_world (((HE.out.drewN _).set1 _).set2 _) (((pw_below_drewN HB.out _).setCell (p := ⟨g, 1, none⟩) HG0.out _).setCell (p := ⟨g, 2, none⟩) HG0.out _) ?_
          intro w5 hE5 hB5
          clear HE HB HBK HRH d0 d1 d2 d3 d4 f1 f2 f3 f4 hx HX HRr
          obtain ⟨hg5, v5, hb5, hR5, hK5⟩ := hE5
          have HK5 := Aside0.mk hK5
          clear hK5
          obtain ⟨A5, c5, hv⟩ := Kd.R_slice hR5
          subst hv
          obtain ⟨ad5, e5, hx5⟩ := Kd.at_int (Kd.C_below HR.out hB5) (t2 : Int) (by omega) (by omega)
          cases e5
          rw [Int.toNat_natCast] at hx5
          have d0 : w5.cell? ⟨g, 0, none⟩ = some (.slice (some ad) l.length c0) := (blk_cell hb5 0).trans rfl
          have d3 : w5.cell? ⟨g, 3, none⟩ = some (.slice A5 had.length c5) := (blk_cell hb5 3).trans rfl
          have d4 : w5.cell? ⟨g, 4, none⟩ = some (.int .i64 at_) := (blk_cell hb5 4).trans rfl
          have f3 := blk_frozen hb5 3
          have f4 := blk_frozen hb5 4
          have hl8 : (had.length + 1) * 8 ≤ 140737488355328 := by omega
          have hne5 := Kd.R_ne hR5 hb5 (by decide)
          have HHB := Aside0.mk hb5
          have HHR := Aside0.mk hR5
          have HHW := Aside0.mk hB5
          have d3a := fun o : Obj => (blk_cell (blk_drew (blk_alloc hb5 o)) 3).trans (rfl : _ = some (Value.slice A5 had.length c5))
          have d0a := fun o : Obj => (blk_cell (blk_drew (blk_alloc hb5 o)) 0).trans (rfl : _ = some (Value.slice (some ad) l.length c0))
          have d3b := fun o : Obj => (blk_cell (blk_alloc hb5 o) 3).trans (rfl : _ = some (Value.slice A5 had.length c5))
          clear hb5 hR5 hB5
          go_region_law (first | (refine Kd.R_append_step (Kd.int .i64) (w0 := w0) (W := w5.drew) w0.heap.size (by rfl) _ _ 25 3 (.int .i64 0) 8 (by rfl) Try.underlying25 info3 rfl (by decide) (by decide) (.slice A5 had.length c5) had (rd l (t2 : Int)) [.int .i64 (rd l (t2 : Int))] (fun _ => True) (fun _ => False) (by rfl) (by rfl) rfl (fun _ h => h.elim) (fun _ _ => trivial) (Kd.R_drew HHR.out) (below_drew HHW.out) HHW.out.size hl8 ?_; intro v7 w7 ho7 hb7 hg7 hat7; obtain ⟨A8, c8, hv8⟩ := Kd.R_slice ho7; rw [List.length_append, List.length_singleton] at hv8; subst hv8; have hblk7 := blk_grown (blk_drew HHB.out) hg7 hne5; have d3' : w7.cell? ⟨g, 3, none⟩ = some (.slice A5 had.length c5) := (blk_cell hblk7 3).trans rfl; have d4' : w7.cell? ⟨g, 4, none⟩ = some (.int .i64 at_) := (blk_cell hblk7 4).trans rfl; have f3' := blk_frozen hblk7 3; have f4' := blk_frozen hblk7 4; have HK7 := Aside0.mk ((HK5.out.below (below_drew (Below.refl _ _))).grown (Kd.R_drew HHR.out) hg7); have HB7 := Aside0.mk hblk7; have HR7 := Aside0.mk ho7; have HW7 := Aside0.mk hb7; clear hblk7 ho7 hb7 hg7 hat7))
          all_goals
            have h5 : ¬ r2 = 5 := by assumption
            have hna : ¬ (0 < t2 ∧ l.getD (t2 - 1) 0 = l.getD t2 0) := fun h => by have := H0.out; omega
            obtain ⟨k, hk⟩ : ∃ k, l.length + 1 - t2 = k + 1 := ⟨l.length - t2, by omega⟩
            have hT : hearT l (l.length + 1 - tt) tt run had at_ fault = (true, t2 + 1, 1, had ++ [rd l (t2 : Int)], (t2 : Int), fault) := by
              rw [HQ.out, hk, hearT, if_pos hlt, if_neg h5, if_neg hna]; simp [rd]
            go_wp2
            rw [Exit.noGoto_ret]
            go_ret
            refine ⟨_, hT.symm, rfl, ⟨hg5, .slice A8 (had.length + 1) c8, ?_, ?_, ?_⟩, ?_⟩
            · first | simpa using blk_set (blk_set HB7.out 3 (.slice A8 (had.length + 1) c8)) 4 (.int .i64 (t2 : Int)) | simpa using blk_set (blk_set HB7.out 4 (.int .i64 (t2 : Int))) 3 (.slice A8 (had.length + 1) c8)
            · first | exact Kd.R_set (Kd.R_set HR7.out HB7.out ear_types 3 _) (blk_set HB7.out 3 _) ear_types 4 _ | exact Kd.R_set (Kd.R_set HR7.out HB7.out ear_types 4 _) (blk_set HB7.out 4 _) ear_types 3 _
            · first | exact (HK7.out.set HB7.out 3 _).set (blk_set HB7.out 3 _) 4 _ | exact (HK7.out.set HB7.out 4 _).set (blk_set HB7.out 4 _) 3 _
            · first | exact (HW7.out.setCell (p := ⟨g, 3, none⟩) hg5 _).setCell (p := ⟨g, 4, none⟩) hg5 _ | exact (HW7.out.setCell (p := ⟨g, 4, none⟩) hg5 _).setCell (p := ⟨g, 3, none⟩) hg5 _
      · obtain ⟨p, hp⟩ : ∃ p : Nat, p = t2 - 1 := ⟨_, rfl⟩
        have e3 : IntKind.i64.wrap ((t2 : Int) - 1) = (p : Int) := by rw [IntKind.wrap_i64]; omega
        obtain ⟨ad', e4, hx'⟩ := Kd.at_int HRr (p : Int) (by omega) (by omega)
        cases e4
        have q2 : decide ((0 : Int) < (t2 : Int)) = true := decide_eq_true (by omega)
        have q3 : decide (0 < t2) = true := decide_eq_true (by omega)
        have b2 : ((p : Int) < (l.length : Int)) = True := eq_true (by omega)
        have b4 : ((t2 : Int) < (l.length : Int)) = True := eq_true (by omega)
        rw [Int.toNat_natCast] at hx hx'
        have HP := Aside0.mk hp
        clear hp
        go_wp2
        go_quiet (fail)
        go_wp2_with (go_at_call 53; refine (ear_wrong g w0.heap.size (some ad) c0 l ((t2 : Int) + 1) r2 had at_ fault 2 (t2 : Int) wk w0 _ ((HE.out.drewN _).set1 _) ((pw_below_drewN HB.out _).setCell (p := ⟨g, 1, none⟩) HG0.out _)).mono ?_; rintro e w1 ⟨rfl, hE1, hB1⟩)
        obtain ⟨k, hk⟩ : ∃ k, l.length + 1 - t2 = k + 1 := ⟨l.length - t2, by omega⟩
        · have h5 : r2 = 5 := by assumption
          have ha : (rd l (p : Int) == rd l (t2 : Int)) = true := by assumption
          have hal : 0 < t2 ∧ l.getD (t2 - 1) 0 = l.getD t2 0 := ⟨by omega, by
            have := beq_iff_eq.mp ha
            rw [← HP.out]
            simpa [rd] using this⟩
          have hT : hearT l (l.length + 1 - tt) tt run had at_ fault = (false, t2 + 1, r2, had, (t2 : Int), 2) := by
            rw [HQ.out, hk, hearT, if_pos hlt, if_pos h5, if_pos hal]
          rw [Exit.noGoto_ret]
          go_ret
          exact ⟨_, hT.symm, rfl, by simpa using hE1, hB1⟩
        · have h5 : r2 = 5 := by assumption
          have ha : (rd l (p : Int) == rd l (t2 : Int)) = false := by assumption
          have hna : ¬ (0 < t2 ∧ l.getD (t2 - 1) 0 = l.getD t2 0) := fun h => by
            have := beq_eq_false_iff_ne.mp ha
            rw [← HP.out] at h
            exact this (by simpa [rd] using h.2)
          obtain ⟨k, hk⟩ : ∃ k, l.length + 1 - t2 = k + 1 := ⟨l.length - t2, by omega⟩
          have hT : hearT l (l.length + 1 - tt) tt run had at_ fault = hearT l (l.length + 1 - (t2 + 1)) (t2 + 1) 1 had at_ fault := by
            rw [HQ.out, hk, hearT, if_pos hlt, if_pos h5, if_neg hna, show l.length + 1 - (t2 + 1) = k by omega]
          go_roundw
          case rel => exact ⟨t2 + 1, 1, by omega, by omega, ⟨by decide, by decide⟩, ⟨by rw [show ((t2 + 1 : Nat) : Int) = (t2 : Int) + 1 by omega]; exact ((HE.out.drewN _).set1 _).set2 _⟩, ⟨((pw_below_drewN HB.out _).setCell (p := ⟨g, 1, none⟩) HG0.out _).setCell (p := ⟨g, 2, none⟩) HG0.out _⟩, ⟨hT⟩⟩
          case measure =>
            have hb2 := fun n : Nat => blk_cell (blk_set (blk_set (w := wr.drewN n) HBK.out 1 (.int .i64 ((t2 : Int) + 1))) 2 (.int .i64 1)) 1
            rw [d1, hb2]
            show l.length - ((t2 : Int) + 1).toNat < l.length - (t2 : Int).toNat
            omega
        · refine ear_world (((HE.out.drewN _).set1 _).set2 _) (((pw_below_drewN HB.out _).setCell (p := ⟨g, 1, none⟩) HG0.out _).setCell (p := ⟨g, 2, none⟩) HG0.out _) ?_
          intro w5 hE5 hB5
          clear HE HB HBK HRH d0 d1 d2 d3 d4 f1 f2 f3 f4 hx hx' HX HRr
          obtain ⟨hg5, v5, hb5, hR5, hK5⟩ := hE5
          have HK5 := Aside0.mk hK5
          clear hK5
          obtain ⟨A5, c5, hv⟩ := Kd.R_slice hR5
          subst hv
          obtain ⟨ad5, e5, hx5⟩ := Kd.at_int (Kd.C_below HR.out hB5) (t2 : Int) (by omega) (by omega)
          cases e5
          rw [Int.toNat_natCast] at hx5
          have d0 : w5.cell? ⟨g, 0, none⟩ = some (.slice (some ad) l.length c0) := (blk_cell hb5 0).trans rfl
          have d3 : w5.cell? ⟨g, 3, none⟩ = some (.slice A5 had.length c5) := (blk_cell hb5 3).trans rfl
          have d4 : w5.cell? ⟨g, 4, none⟩ = some (.int .i64 at_) := (blk_cell hb5 4).trans rfl
          have f3 := blk_frozen hb5 3
          have f4 := blk_frozen hb5 4
          have hl8 : (had.length + 1) * 8 ≤ 140737488355328 := by omega
          have hne5 := Kd.R_ne hR5 hb5 (by decide)
          have HHB := Aside0.mk hb5
          have HHR := Aside0.mk hR5
          have HHW := Aside0.mk hB5
          have d3a := fun o : Obj => (blk_cell (blk_drew (blk_alloc hb5 o)) 3).trans (rfl : _ = some (Value.slice A5 had.length c5))
          have d0a := fun o : Obj => (blk_cell (blk_drew (blk_alloc hb5 o)) 0).trans (rfl : _ = some (Value.slice (some ad) l.length c0))
          have d3b := fun o : Obj => (blk_cell (blk_alloc hb5 o) 3).trans (rfl : _ = some (Value.slice A5 had.length c5))
          clear hb5 hR5 hB5
          go_region_law (first | (refine Kd.R_append_step (Kd.int .i64) (w0 := w0) (W := w5.drew) w0.heap.size (by rfl) _ _ 25 3 (.int .i64 0) 8 (by rfl) Try.underlying25 info3 rfl (by decide) (by decide) (.slice A5 had.length c5) had (rd l (t2 : Int)) [.int .i64 (rd l (t2 : Int))] (fun _ => True) (fun _ => False) (by rfl) (by rfl) rfl (fun _ h => h.elim) (fun _ _ => trivial) (Kd.R_drew HHR.out) (below_drew HHW.out) HHW.out.size hl8 ?_; intro v7 w7 ho7 hb7 hg7 hat7; obtain ⟨A8, c8, hv8⟩ := Kd.R_slice ho7; rw [List.length_append, List.length_singleton] at hv8; subst hv8; have hblk7 := blk_grown (blk_drew HHB.out) hg7 hne5; have d3' : w7.cell? ⟨g, 3, none⟩ = some (.slice A5 had.length c5) := (blk_cell hblk7 3).trans rfl; have d4' : w7.cell? ⟨g, 4, none⟩ = some (.int .i64 at_) := (blk_cell hblk7 4).trans rfl; have f3' := blk_frozen hblk7 3; have f4' := blk_frozen hblk7 4; have HK7 := Aside0.mk ((HK5.out.below (below_drew (Below.refl _ _))).grown (Kd.R_drew HHR.out) hg7); have HB7 := Aside0.mk hblk7; have HR7 := Aside0.mk ho7; have HW7 := Aside0.mk hb7; clear hblk7 ho7 hb7 hg7 hat7))
          all_goals
            have h5 : ¬ r2 = 5 := by assumption
            have ha : (rd l (p : Int) == rd l (t2 : Int)) = true := by assumption
            have hal : 0 < t2 ∧ l.getD (t2 - 1) 0 = l.getD t2 0 := ⟨by omega, by
              have := beq_iff_eq.mp ha
              rw [← HP.out]
              simpa [rd] using this⟩
            obtain ⟨k, hk⟩ : ∃ k, l.length + 1 - t2 = k + 1 := ⟨l.length - t2, by omega⟩
            have hT : hearT l (l.length + 1 - tt) tt run had at_ fault = (true, t2 + 1, r2 + 1, had ++ [rd l (t2 : Int)], (t2 : Int), fault) := by
              rw [HQ.out, hk, hearT, if_pos hlt, if_neg h5, if_pos hal]; simp [rd]
            go_wp2
            rw [Exit.noGoto_ret]
            go_ret
            refine ⟨_, hT.symm, rfl, ⟨hg5, .slice A8 (had.length + 1) c8, ?_, ?_, ?_⟩, ?_⟩
            · first | simpa using blk_set (blk_set HB7.out 3 (.slice A8 (had.length + 1) c8)) 4 (.int .i64 (t2 : Int)) | simpa using blk_set (blk_set HB7.out 4 (.int .i64 (t2 : Int))) 3 (.slice A8 (had.length + 1) c8)
            · first | exact Kd.R_set (Kd.R_set HR7.out HB7.out ear_types 3 _) (blk_set HB7.out 3 _) ear_types 4 _ | exact Kd.R_set (Kd.R_set HR7.out HB7.out ear_types 4 _) (blk_set HB7.out 4 _) ear_types 3 _
            · first | exact (HK7.out.set HB7.out 3 _).set (blk_set HB7.out 3 _) 4 _ | exact (HK7.out.set HB7.out 4 _).set (blk_set HB7.out 4 _) 3 _
            · first | exact (HW7.out.setCell (p := ⟨g, 3, none⟩) hg5 _).setCell (p := ⟨g, 4, none⟩) hg5 _ | exact (HW7.out.setCell (p := ⟨g, 4, none⟩) hg5 _).setCell (p := ⟨g, 3, none⟩) hg5 _
        · refine ear_world (((HE.out.drewN _).set1 _).set2 _) (((pw_below_drewN HB.out _).setCell (p := ⟨g, 1, none⟩) HG0.out _).setCell (p := ⟨g, 2, none⟩) HG0.out _) ?_
          intro w5 hE5 hB5
          clear HE HB HBK HRH d0 d1 d2 d3 d4 f1 f2 f3 f4 hx hx' HX HRr
          obtain ⟨hg5, v5, hb5, hR5, hK5⟩ := hE5
          have HK5 := Aside0.mk hK5
          clear hK5
          obtain ⟨A5, c5, hv⟩ := Kd.R_slice hR5
          subst hv
          obtain ⟨ad5, e5, hx5⟩ := Kd.at_int (Kd.C_below HR.out hB5) (t2 : Int) (by omega) (by omega)
          cases e5
          rw [Int.toNat_natCast] at hx5
          have d0 : w5.cell? ⟨g, 0, none⟩ = some (.slice (some ad) l.length c0) := (blk_cell hb5 0).trans rfl
          have d3 : w5.cell? ⟨g, 3, none⟩ = some (.slice A5 had.length c5) := (blk_cell hb5 3).trans rfl
          have d4 : w5.cell? ⟨g, 4, none⟩ = some (.int .i64 at_) := (blk_cell hb5 4).trans rfl
          have f3 := blk_frozen hb5 3
          have f4 := blk_frozen hb5 4
          have hl8 : (had.length + 1) * 8 ≤ 140737488355328 := by omega
          have hne5 := Kd.R_ne hR5 hb5 (by decide)
          have HHB := Aside0.mk hb5
          have HHR := Aside0.mk hR5
          have HHW := Aside0.mk hB5
          have d3a := fun o : Obj => (blk_cell (blk_drew (blk_alloc hb5 o)) 3).trans (rfl : _ = some (Value.slice A5 had.length c5))
          have d0a := fun o : Obj => (blk_cell (blk_drew (blk_alloc hb5 o)) 0).trans (rfl : _ = some (Value.slice (some ad) l.length c0))
          have d3b := fun o : Obj => (blk_cell (blk_alloc hb5 o) 3).trans (rfl : _ = some (Value.slice A5 had.length c5))
          clear hb5 hR5 hB5
          go_region_law (first | (refine Kd.R_append_step (Kd.int .i64) (w0 := w0) (W := w5.drew) w0.heap.size (by rfl) _ _ 25 3 (.int .i64 0) 8 (by rfl) Try.underlying25 info3 rfl (by decide) (by decide) (.slice A5 had.length c5) had (rd l (t2 : Int)) [.int .i64 (rd l (t2 : Int))] (fun _ => True) (fun _ => False) (by rfl) (by rfl) rfl (fun _ h => h.elim) (fun _ _ => trivial) (Kd.R_drew HHR.out) (below_drew HHW.out) HHW.out.size hl8 ?_; intro v7 w7 ho7 hb7 hg7 hat7; obtain ⟨A8, c8, hv8⟩ := Kd.R_slice ho7; rw [List.length_append, List.length_singleton] at hv8; subst hv8; have hblk7 := blk_grown (blk_drew HHB.out) hg7 hne5; have d3' : w7.cell? ⟨g, 3, none⟩ = some (.slice A5 had.length c5) := (blk_cell hblk7 3).trans rfl; have d4' : w7.cell? ⟨g, 4, none⟩ = some (.int .i64 at_) := (blk_cell hblk7 4).trans rfl; have f3' := blk_frozen hblk7 3; have f4' := blk_frozen hblk7 4; have HK7 := Aside0.mk ((HK5.out.below (below_drew (Below.refl _ _))).grown (Kd.R_drew HHR.out) hg7); have HB7 := Aside0.mk hblk7; have HR7 := Aside0.mk ho7; have HW7 := Aside0.mk hb7; clear hblk7 ho7 hb7 hg7 hat7))
          all_goals
            have h5 : ¬ r2 = 5 := by assumption
            have ha : (rd l (p : Int) == rd l (t2 : Int)) = false := by assumption
            have hna : ¬ (0 < t2 ∧ l.getD (t2 - 1) 0 = l.getD t2 0) := fun h => by
              have := beq_eq_false_iff_ne.mp ha
              rw [← HP.out] at h
              exact this (by simpa [rd] using h.2)
            obtain ⟨k, hk⟩ : ∃ k, l.length + 1 - t2 = k + 1 := ⟨l.length - t2, by omega⟩
            have hT : hearT l (l.length + 1 - tt) tt run had at_ fault = (true, t2 + 1, 1, had ++ [rd l (t2 : Int)], (t2 : Int), fault) := by
              rw [HQ.out, hk, hearT, if_pos hlt, if_neg h5, if_neg hna]; simp [rd]
            go_wp2
            rw [Exit.noGoto_ret]
            go_ret
            refine ⟨_, hT.symm, rfl, ⟨hg5, .slice A8 (had.length + 1) c8, ?_, ?_, ?_⟩, ?_⟩
            · first | simpa using blk_set (blk_set HB7.out 3 (.slice A8 (had.length + 1) c8)) 4 (.int .i64 (t2 : Int)) | simpa using blk_set (blk_set HB7.out 4 (.int .i64 (t2 : Int))) 3 (.slice A8 (had.length + 1) c8)
            · first | exact Kd.R_set (Kd.R_set HR7.out HB7.out ear_types 3 _) (blk_set HB7.out 3 _) ear_types 4 _ | exact Kd.R_set (Kd.R_set HR7.out HB7.out ear_types 4 _) (blk_set HB7.out 4 _) ear_types 3 _
            · first | exact (HK7.out.set HB7.out 3 _).set (blk_set HB7.out 3 _) 4 _ | exact (HK7.out.set HB7.out 4 _).set (blk_set HB7.out 4 _) 3 _
            · first | exact (HW7.out.setCell (p := ⟨g, 3, none⟩) hg5 _).setCell (p := ⟨g, 4, none⟩) hg5 _ | exact (HW7.out.setCell (p := ⟨g, 4, none⟩) hg5 _).setCell (p := ⟨g, 3, none⟩) hg5 _
    · obtain rfl : t2 = l.length := by omega
      go_wp2
      go_quiet (fail)
      go_wp2_with (go_at_call 53; refine (ear_wrong g w0.heap.size A0 c0 l (l.length : Int) r2 had at_ fault 1 (l.length : Int) wk w0 _ (HE.out.below (pw_below_drewN (Below.refl _ _) _)) (pw_below_drewN HB.out _)).mono ?_; rintro e w1 ⟨rfl, hE1, hB1⟩)
      rw [Exit.noGoto_ret]
      go_ret
      refine ⟨_, rfl, ?_, ?_, hB1⟩
      · rw [HQ.out]; simp [hearT]
      · rw [HQ.out]; simpa [hearT] using hE1

/-! ### wire_ear_end: helper -/

/-! ### wire_ear_sum: helper -/
/-- An ear's state: goes it on, how far, the run, the bits, the last one's place, what is wrong. -/
abbrev EarS := Bool × Nat × Int × List Int × Int × Int
def ear_next (l : List Int) (s : EarS) : EarS := hearT l (l.length + 1 - s.2.1) s.2.1 s.2.2.1 s.2.2.2.1 s.2.2.2.2.1 s.2.2.2.2.2
/-- A right state. -/
def ear_Ok (l : List Int) (s : EarS) : Prop := s.2.1 ≤ l.length ∧ (0 ≤ s.2.2.1 ∧ s.2.2.1 ≤ 5) ∧ s.2.2.2.1.length ≤ s.2.1 ∧ (∀ x ∈ s.2.2.2.1, x ∈ l) ∧ (s.1 = true → 0 ≤ s.2.2.2.2.1 ∧ s.2.2.2.2.1 < (l.length : Int))
def ear_Is (wk w : World) (g B : Nat) (A0 : Option Addr) (c0 : Nat) (l : List Int) (s : EarS) : Prop := ear_At wk w g B A0 c0 l s.2.1 s.2.2.1 s.2.2.2.1 s.2.2.2.2.1 s.2.2.2.2.2
theorem hearT_ok (l : List Int) : ∀ (k tt : Nat) (run : Int) (had : List Int) (a f : Int) (b : Bool), ear_Ok l (b, tt, run, had, a, f) → tt + k = l.length + 1 →
    ear_Ok l (hearT l k tt run had a f) ∧ tt ≤ (hearT l k tt run had a f).2.1 ∧ ((hearT l k tt run had a f).1 = true → tt < (hearT l k tt run had a f).2.1) := by
  intro k
  induction k with
  | zero => intro tt run had a f b h hk; exact absurd h.1 (by show ¬ (tt ≤ l.length); omega)
  | succ k ih =>
    rintro tt run had a f b ⟨h1, ⟨h2, h3⟩, h4, h5, _⟩ hk
    dsimp only at h1 h2 h3 h4 h5
    unfold hearT
    by_cases hlt : tt < l.length
    · rw [if_pos hlt]
      by_cases hr : run = 5
      · rw [if_pos hr]
        by_cases ha : 0 < tt ∧ l.getD (tt - 1) 0 = l.getD tt 0
        · rw [if_pos ha]
          exact ⟨⟨hlt, ⟨h2, h3⟩, Nat.le_succ_of_le h4, h5, fun h => by cases h⟩, Nat.le_succ tt, fun h => by cases h⟩
        · rw [if_neg ha]
          obtain ⟨i1, i2, i3⟩ := ih (tt + 1) 1 had a f false ⟨hlt, ⟨by show (0 : Int) ≤ 1; decide, by show (1 : Int) ≤ 5; decide⟩, Nat.le_succ_of_le h4, h5, fun h => by cases h⟩ (by omega)
          exact ⟨i1, by omega, fun h => by omega⟩
      · rw [if_neg hr]
        refine ⟨⟨hlt, ?_, ?_, ?_, fun _ => ⟨by show (0 : Int) ≤ (tt : Int); omega, by show (tt : Int) < (l.length : Int); omega⟩⟩, Nat.le_succ tt, fun _ => Nat.lt_succ_self tt⟩
        · by_cases hc : 0 < tt ∧ l.getD (tt - 1) 0 = l.getD tt 0
          · rw [if_pos hc]; exact ⟨by show (0 : Int) ≤ run + 1; omega, by show run + 1 ≤ (5 : Int); omega⟩
          · rw [if_neg hc]; exact ⟨by show (0 : Int) ≤ 1; decide, by show (1 : Int) ≤ 5; decide⟩
        · show (had ++ [l.getD tt 0]).length ≤ tt + 1
          rw [List.length_append, List.length_singleton]; omega
        · intro x hx
          rcases List.mem_append.mp hx with hx | hx
          · exact h5 x hx
          · rw [List.mem_singleton.mp hx]; exact fb_rd_mem hlt
    · rw [if_neg hlt]
      exact ⟨⟨h1, ⟨h2, h3⟩, h4, h5, fun h => by cases h⟩, Nat.le_refl tt, fun h => by cases h⟩
theorem ear_next_ok {l : List Int} {s : EarS} (h : ear_Ok l s) : ear_Ok l (ear_next l s) ∧ s.2.1 ≤ (ear_next l s).2.1 ∧ ((ear_next l s).1 = true → s.2.1 < (ear_next l s).2.1) :=
  hearT_ok l _ _ _ _ _ _ s.1 h (by have := h.1; omega)
theorem ear_hears (g : Nat) (A0 : Option Addr) (c0 : Nat) (l : List Int) (s : EarS) (wk w0 w : World) (h : ear_Is wk w g w0.heap.size A0 c0 l s) (ho : ear_Ok l s) (hB : Below w0.heap.size w0 w) (hr : Kd.C (Kd.int .i64) w0 A0 l.length l) (hc : l.length ≤ c0) (hn : l.length ≤ 1000000) :
    Calls Try.prog 50 #[.pointer (some ⟨g, 0, none⟩)] w fun e w' => e = .returned (.bool (ear_next l s).1) ∧ ear_Is wk w' g w0.heap.size A0 c0 l (ear_next l s) ∧ Below w0.heap.size w0 w' := by
  refine (ear_hear g A0 c0 l s.2.1 s.2.2.1 s.2.2.2.1 s.2.2.2.2.1 s.2.2.2.2.2 wk w0 w h hB hr hc ho.1 hn ho.2.1 (by have := ho.2.2.1; have := ho.1; omega)).mono ?_
  rintro e w1 ⟨r, rfl, rfl, h1, h2⟩
  exact ⟨rfl, h1, h2⟩
/-- The head that is heard: its bits are those of the state behind it. -/
def headT (l : List Int) : Nat → EarS → EarS
  | 0, s => (false, s.2)
  | k + 1, s =>
    if (ear_next l s).1 = true then
      (if (frame_readB (ear_next l s).2.2.2.1).1 = 0 then ear_next l s
       else if (frame_readB (ear_next l s).2.2.2.1).1 = 42 ∨ (frame_readB (ear_next l s).2.2.2.1).1 = 41 then (false, (ear_next l s).2.1, (ear_next l s).2.2.1, (ear_next l s).2.2.2.1, (ear_next l s).2.2.2.2.1, 3)
       else headT l k (ear_next l s))
    else ear_next l s
def ear_zs : Array Value := #[.bool false, .int .i64 0, .bool false, .int .i64 0, .slice none 0 0]
/-- A frame's cells: those read of so many bits, or none. -/
def ear_Cells (b : Bool) (had : List Int) (v : Value) : Array Value :=
  if b then #[.bool (frame_readB had).2.1, .int .i64 (frame_readB had).2.2.1, .bool (frame_readB had).2.2.2.1, .int .i64 (frame_readB had).2.2.2.2.1, v] else ear_zs
theorem ear_results2 {P : Program} {fn : Func} {p u : Tmp} {ty : TypeId} (h : fn.results = #[.cell p ty, .tmp u]) (tmps : Array Value) (w : World) (g : Nat) (t : TypeId) (cs : Array Value) (fr : Nat × Nat) (d : TypeDesc)
    (hp : tmps.getD p undef = .pointer (some ⟨g, 0, none⟩)) (hg : w.heap[g]? = some (.cells cs t fr))
    (hu : P.underlying ty = some d) (hd : (match d with | .struct _ | .array _ _ => true | _ => false) = true) (hi : (P.info? ty).map (·.size) = some cs.size) :
    (results fn tmps).run P w = .ok (.tuple #[.agg cs, tmps.getD u undef]) w := by
  have hp' : tmps[p]?.getD undef = .pointer (some ⟨g, 0, none⟩) := by simpa using hp
  simp [results, h, hp', asAddr, run_loadVar_row w g t ty cs fr d hg hu hd hi]
theorem ear_results3 {P : Program} {fn : Func} {p u u2 : Tmp} {ty : TypeId} (h : fn.results = #[.cell p ty, .tmp u, .tmp u2]) (tmps : Array Value) (w : World) (g : Nat) (t : TypeId) (cs : Array Value) (fr : Nat × Nat) (d : TypeDesc)
    (hp : tmps.getD p undef = .pointer (some ⟨g, 0, none⟩)) (hg : w.heap[g]? = some (.cells cs t fr))
    (hu : P.underlying ty = some d) (hd : (match d with | .struct _ | .array _ _ => true | _ => false) = true) (hi : (P.info? ty).map (·.size) = some cs.size) :
    (results fn tmps).run P w = .ok (.tuple #[.agg cs, tmps.getD u undef, tmps.getD u2 undef]) w := by
  have hp' : tmps[p]?.getD undef = .pointer (some ⟨g, 0, none⟩) := by simpa using hp
  simp [results, h, hp', asAddr, run_loadVar_row w g t ty cs fr d hg hu hd hi]
theorem ear_lt {wk w : World} {g B : Nat} {A0 : Option Addr} {c0 : Nat} {l : List Int} {tt run : Int} {had : List Int} {at_ fault : Int} (h : ear_At wk w g B A0 c0 l tt run had at_ fault) : g < w.heap.size := by
  obtain ⟨_, v, hb, _, _⟩ := h
  exact (Array.getElem?_eq_some_iff.mp hb).1
/-- A box of a frame that is written leaves the ear be. -/
theorem ear_At.grown {wk w w1 : World} {g B : Nat} {A0 : Option Addr} {c0 : Nat} {l : List Int} {tt run : Int} {had : List Int} {at_ fault : Int} (h : ear_At wk w g B A0 c0 l tt run had at_ fault) {z : Nat} {cells : Array Value} (hg : w.grownBy w1 (some z)) (hz : w.heap[z]? = some (.cells cells 24 (0, 0))) (hK : ear_Keep wk w1) : ear_At wk w1 g B A0 c0 l tt run had at_ fault := by
  obtain ⟨h0, v, h1, h2, h3⟩ := h
  have hne : z ≠ g := blk_ne hz h1 (by decide)
  refine ⟨h0, v, blk_grown h1 hg (fun e => hne (by injection e with e; exact e.symm)), ?_, hK⟩
  exact Kd.R_grown2 h2 rfl hg (fun k hk => by injection hk with hk; subst hk; exact Kd.R_ne h2 hz (by decide))
/-- Another elder world. -/
theorem ear_At.to {wk wk' w : World} {g B : Nat} {A0 : Option Addr} {c0 : Nat} {l : List Int} {tt run : Int} {had : List Int} {at_ fault : Int} (h : ear_At wk w g B A0 c0 l tt run had at_ fault) (hK : ear_Keep wk' w) : ear_At wk' w g B A0 c0 l tt run had at_ fault := by
  obtain ⟨h0, v, h1, h2, _⟩ := h
  exact ⟨h0, v, h1, h2, hK⟩
theorem ear_At.keep {wk w : World} {g B : Nat} {A0 : Option Addr} {c0 : Nat} {l : List Int} {tt run : Int} {had : List Int} {at_ fault : Int} (h : ear_At wk w g B A0 c0 l tt run had at_ fault) : ear_Keep wk w := h.2.choose_spec.2.2
theorem ear_Keep.fresh {w w1 w2 : World} (h : ear_Keep w w1) {z : Nat} (hg : w1.grownBy w2 (some z)) (hz : w.heap.size ≤ z) : ear_Keep w w2 :=
  ⟨Nat.le_trans h.1 hg.size, fun i c t hc h1 h2 => blk_grown (h.2 i c t hc h1 h2) hg (fun e => by injection e with e; have := blk_lt hc; omega)⟩
set_option maxHeartbeats 3200000 in
set_option maxRecDepth 100000 in
theorem ear_head (g : Nat) (A0 : Option Addr) (c0 : Nat) (l : List Int) (s : EarS) (wk w0 w : World) (h : ear_Is wk w g w0.heap.size A0 c0 l s) (ho : ear_Ok l s) (hB : Below w0.heap.size w0 w) (hr : Kd.C (Kd.int .i64) w0 A0 l.length l) (hc : l.length ≤ c0) (hn : l.length ≤ 1000000) (hw : ∀ x ∈ l, H.W64 x) :
    Calls Try.prog 49 #[.pointer (some ⟨g, 0, none⟩)] w fun e w' => ∃ (v4 : Value) (s' : EarS), s' = headT l (l.length + 1 - s.2.1) s ∧ e = .returned (.tuple #[.agg (ear_Cells s'.1 s'.2.2.2.1 v4), .bool s'.1]) ∧ (s'.1 = true → Kd.R (Kd.int .u8) 5 w' w0.heap.size (fun _ => True) v4 (frame_readB s'.2.2.2.1).2.2.2.2.2.1) ∧ ear_Is wk w' g w0.heap.size A0 c0 l s' ∧ ear_Ok l s' ∧ Below w0.heap.size w0 w' := by
  have hmf : ∀ (fn : Fn) (first cap : Array Value) (w : World), (Instr.makeFunc fn first cap).run Try.prog w = .ok (.func fn first cap) w := fun _ _ _ _ => rfl
  have hu := Try.underlying24
  have HE := Aside0.mk h
  have HO := Aside0.mk ho
  have HB := Aside0.mk hB
  have HR := Aside0.mk hr
  have HC := Aside0.mk hc
  have HN := Aside0.mk hn
  have HWD := Aside0.mk hw
  clear h ho hB hr hc hn hw
  go_enter Try.func49, Try.ntmps49
  go_wp2_with fail
  go_loopw [] (fun wr => ∃ (k : Nat) (s2 : EarS), l.length - s2.2.1 < k ∧ Aside0 (ear_Ok l s2) ∧ Aside0 (headT l (l.length + 1 - s.2.1) s = headT l k s2) ∧ Aside0 (ear_Is wk wr g w0.heap.size A0 c0 l s2) ∧ Aside0 (Below w0.heap.size w0 wr) ∧ Aside0 (wr.heap[w.heap.size]? = some (.cells ear_zs 24 (0, 0))))
    (fun wr => match wr.cell? ⟨g, 1, none⟩ with | some (.int _ n) => l.length - n.toNat | _ => 0)
  case atStart => exact ⟨l.length + 1 - s.2.1, s, by have := HO.out.1; omega, HO, ⟨rfl⟩, ⟨ear_At.below HE.out (below_alloc (Below.refl _ _) _)⟩, ⟨below_alloc HB.out _⟩, ⟨blk_new _ _⟩⟩
  case round =>
    have HWK : Aside0 (wk.heap.size ≤ w.heap.size) := ⟨(ear_At.keep HE.out).1⟩
    have HW0 : Aside0 (w0.heap.size ≤ w.heap.size) := ⟨HB.out.size⟩
    clear HE HB HO
    obtain ⟨k, s2, hk, HO2, HQ, HE2, HB2, HZ⟩ := hrel
    obtain ⟨k, rfl⟩ : ∃ j, k = j + 1 := ⟨k - 1, by omega⟩
    have hn2 := ear_next_ok HO2.out
    go_wp2_with fail
    refine (ear_hears g A0 c0 l s2 wr w0 _ (ear_At.to HE2.out (ear_Keep.refl wr)) HO2.out HB2.out HR.out HC.out HN.out).mono ?_
    rintro e w1 ⟨rfl, hE3, hB3⟩
    have HK3 := Aside0.mk (ear_At.keep hE3)
    have HE3 : Aside0 (ear_Is wk w1 g w0.heap.size A0 c0 l (ear_next l s2)) := ⟨ear_At.to hE3 ((ear_At.keep HE2.out).trans HK3.out)⟩
    have HB3 := Aside0.mk hB3
    have HZ3 := Aside0.mk (HK3.out.2 _ _ _ HZ.out (by decide) (by decide))
    have d1r : ∀ n : Nat, True := fun _ => trivial
    have HM : Aside0 (∃ q : Int, wr.cell? ⟨g, 1, none⟩ = some (.int .i64 q) ∧ q = (s2.2.1 : Int)) := by
      obtain ⟨_, v, hb, _, _⟩ := HE2.out
      exact ⟨_, (blk_cell hb 1).trans rfl, rfl⟩
    clear hE3 hB3 HE2 HB2 HZ HK3 d1r
    cases hb3 : (ear_next l s2).1 with
    | false =>
      have HT : Aside0 (headT l (l.length + 1 - s.2.1) s = ear_next l s2) := ⟨by rw [HQ.out]; unfold headT; rw [if_neg (by rw [hb3]; exact Bool.false_ne_true)]⟩
      have HB0 := Aside0.mk hb3
      have HN2 := Aside0.mk hn2.1
      clear hb3 hn2 HQ hk
      go_wp2_with (first | ((with_reducible refine gate_store (t := 24) (p := 2) rfl ?_); refine HW.store_box' rfl rfl 24 _ _ rfl rfl rfl HZ3.out rfl (by kernel_rfl) (by intro q hq; simp only [List.mem_cons, List.not_mem_nil, or_false] at hq; rcases hq with rfl | rfl | rfl | rfl | rfl <;> rfl) ?_; intro wz hk hg; have HEz := Aside0.mk (ear_At.grown HE3.out hg HZ3.out ((ear_At.keep HE3.out).fresh hg HWK.out)); have HBz := Aside0.mk (HB3.out.grown hg HB3.out.size (fun k he => by injection he with he; have := HW0.out; omega)); have HZz := Aside0.mk hk; clear hk hg HE3 HB3 HZ3))
      (try rw [Exit.noGoto_ret])
      refine bodyPost_ret (ear_results2 rfl _ _ w.heap.size 24 _ (0, 0) _ rfl HZz.out Try.underlying24 rfl (by kernel_rfl)) rfl ?_
      refine ⟨.slice none 0 0, _, HT.out.symm, ?_, fun h => ?_, HEz.out, HN2.out, HBz.out⟩
      · rw [HB0.out]; rfl
      · rw [HB0.out] at h; cases h
    | true =>
      obtain ⟨s3, hs3⟩ : ∃ s3, s3 = ear_next l s2 := ⟨_, rfl⟩
      rw [← hs3] at hb3 hn2 HE3
      obtain ⟨hg0, v, hbk, hRh, hK3⟩ := HE3.out
      obtain ⟨A3, c3, rfl⟩ := Kd.R_slice hRh
      obtain ⟨_, hc3, hC3⟩ := Kd.R_reads' hRh
      have d3 : w1.cell? ⟨g, 3, none⟩ = some (.slice A3 s3.2.2.2.1.length c3) := (blk_cell hbk 3).trans rfl
      have hl3 : s3.2.2.2.1.length ≤ 1073741824 := by have := hn2.1.2.2.1; have := hn2.1.1; have := HN.out; omega
      have hfr := frame_Read_at A3 c3 s3.2.2.2.1 w1 hC3 hc3 hl3 (fun x hx => HWD.out x (hn2.1.2.2.2.1 x hx))
      obtain ⟨⟨e4, b1, n2, b3, n4, r5, at5⟩, hq⟩ : ∃ q, q = frame_readB s3.2.2.2.1 := ⟨_, rfl⟩
      rw [← hq] at hfr
      have HF := Aside0.mk hfr
      have HN2 := Aside0.mk hn2
      have HB0 := Aside0.mk hb3
      have HS3 := Aside0.mk hs3
      have HFQ := Aside0.mk hq
      clear hg0 hbk hRh hK3 hc3 hC3 hl3 hfr hn2 hb3 hs3 hq
      go_wp2_with fail
      refine HF.out.mono ?_
      rintro e w2 ⟨v4, rfl, hv4, hB4⟩
      obtain ⟨A4, c4, rfl⟩ := Kd.R_slice hv4
      have HV4 := Aside0.mk hv4
      have HB4 := Aside0.mk hB4
      have hE4 := ear_At.below HE3.out hB4
      have HE4 := Aside0.mk hE4
      have HZ4 := Aside0.mk (blk_below HZ3.out hB4)
      have HB5 := Aside0.mk (HB3.out.trans (hB4.mono HB3.out.size))
      have HS1 := Aside0.mk HB3.out.size
      clear hv4 hB4 hE4 HE3 HZ3 HB3 HF d3
      by_cases he0 : e4 = 0
      · subst he0
        have HT : Aside0 (headT l (l.length + 1 - s.2.1) s = s3) := ⟨by rw [HQ.out]; unfold headT; rw [← HS3.out, if_pos HB0.out, ← HFQ.out, if_pos rfl]⟩
        go_wp2_with (first | ((with_reducible refine gate_store (t := 24) (p := 5) rfl ?_); refine HW.store_box' rfl rfl 24 _ _ rfl rfl rfl (blk_new _ _) rfl (by kernel_rfl) (by intro q hq; simp only [List.mem_cons, List.not_mem_nil, or_false] at hq; rcases hq with rfl | rfl | rfl | rfl | rfl <;> rfl) ?_; intro wy hk hg; have HK5 := Aside0.mk (((ear_At.keep HE4.out).below (below_alloc (Below.refl _ _) _)).fresh hg (Nat.le_trans (ear_At.keep HE4.out).1 (Nat.le_refl _))); have HE5 := Aside0.mk (ear_At.grown (ear_At.below HE4.out (below_alloc (Below.refl _ _) _)) hg (blk_new _ _) HK5.out); have HBy := Aside0.mk ((below_alloc HB5.out _).grown hg (below_alloc HB5.out _).size (fun k he => by injection he with he; have := HB5.out.size; omega)); have HZ5 := Aside0.mk (blk_grown (blk_alloc HZ4.out _) hg (fun e => by injection e with e; have := blk_lt HZ4.out; omega)); have HV5 := Aside0.mk (frame_R_far (Kd.R_below HV4.out (below_alloc (Below.refl _ _) _)) hg (blk_new _ _)); have HY := Aside0.mk hk; have d4 : wy.cell? ⟨g, 4, none⟩ = some (.int .i64 s3.2.2.2.2.1) := (by obtain ⟨_, vq, hbq, _, _⟩ := HE5.out; exact (blk_cell hbq 4).trans rfl); clear hk hg HE4 HB5 HZ4 HV4) | ((with_reducible refine gate_dst (N := 24) rfl ?_); refine wpList_load_row rfl 24 _ rfl w2.heap.size rfl _ _ (0, 0) _ HY.out Try.underlying24 rfl (by kernel_rfl) ?_) | ((with_reducible refine gate_store (t := 24) (p := 2) rfl ?_); refine HW.store_box' rfl rfl 24 _ _ rfl rfl rfl HZ5.out rfl (by kernel_rfl) (by intro q hq; simp only [List.mem_cons, List.not_mem_nil, or_false] at hq; rcases hq with rfl | rfl | rfl | rfl | rfl <;> rfl) ?_; intro wz hk hg; have HEz := Aside0.mk (ear_At.grown HE5.out hg HZ5.out ((ear_At.keep HE5.out).fresh hg HWK.out)); have HBz := Aside0.mk (HBy.out.grown hg HBy.out.size (fun k he => by injection he with he; have := HW0.out; omega)); have HVz := Aside0.mk (frame_R_far HV5.out hg HZ5.out); have HZz := Aside0.mk hk; clear hk hg HE5 HBy HZ5 HV5))
        (try rw [Exit.noGoto_ret])
        refine bodyPost_ret (ear_results2 rfl _ _ w.heap.size 24 _ (0, 0) _ rfl HZz.out Try.underlying24 rfl (by kernel_rfl)) rfl ?_
        refine ⟨.slice A4 r5.length c4, _, HT.out.symm, ?_, fun _ => ?_, HEz.out, HN2.out.1, HBz.out⟩
        · rw [HB0.out]; unfold ear_Cells; rw [← HFQ.out]; rfl
        · rw [← HFQ.out]; exact Kd.R_lower HVz.out HS1.out
      · by_cases he1 : e4 = 42 ∨ e4 = 41
        · have HT : Aside0 (headT l (l.length + 1 - s.2.1) s = (false, s3.2.1, s3.2.2.1, s3.2.2.2.1, s3.2.2.2.2.1, 3)) := ⟨by rw [HQ.out]; unfold headT; rw [← HS3.out, if_pos HB0.out, ← HFQ.out, if_neg he0, if_pos he1]⟩
          rcases he1 with rfl | rfl
          all_goals
            clear he0
            go_wp2_with (first | ((with_reducible refine gate_store (t := 24) (p := 5) rfl ?_); refine HW.store_box' rfl rfl 24 _ _ rfl rfl rfl (blk_new _ _) rfl (by kernel_rfl) (by intro q hq; simp only [List.mem_cons, List.not_mem_nil, or_false] at hq; rcases hq with rfl | rfl | rfl | rfl | rfl <;> rfl) ?_; intro wy hk hg; have HK5 := Aside0.mk (((ear_At.keep HE4.out).below (below_alloc (Below.refl _ _) _)).fresh hg (Nat.le_trans (ear_At.keep HE4.out).1 (Nat.le_refl _))); have HE5 := Aside0.mk (ear_At.grown (ear_At.below HE4.out (below_alloc (Below.refl _ _) _)) hg (blk_new _ _) HK5.out); have HBy := Aside0.mk ((below_alloc HB5.out _).grown hg (below_alloc HB5.out _).size (fun k he => by injection he with he; have := HB5.out.size; omega)); have HZ5 := Aside0.mk (blk_grown (blk_alloc HZ4.out _) hg (fun e => by injection e with e; have := blk_lt HZ4.out; omega)); have HV5 := Aside0.mk (frame_R_far (Kd.R_below HV4.out (below_alloc (Below.refl _ _) _)) hg (blk_new _ _)); have HY := Aside0.mk hk; have d4 : wy.cell? ⟨g, 4, none⟩ = some (.int .i64 s3.2.2.2.2.1) := (by obtain ⟨_, vq, hbq, _, _⟩ := HE5.out; exact (blk_cell hbq 4).trans rfl); clear hk hg HE4 HB5 HZ4 HV4) | (go_at_call 53; refine (ear_wrong g w0.heap.size A0 c0 l s3.2.1 s3.2.2.1 s3.2.2.2.1 s3.2.2.2.2.1 s3.2.2.2.2.2 3 s3.2.2.2.2.1 wy w0 _ (ear_At.to HE5.out (ear_Keep.refl _)) HBy.out).mono ?_; rintro e w6 ⟨rfl, hE6, hB6⟩; have HZ6 := Aside0.mk ((ear_At.keep hE6).2 _ _ _ HZ5.out (by decide) (by decide)); have HE6 := Aside0.mk (ear_At.to hE6 ((ear_At.keep HE5.out).trans (ear_At.keep hE6))); have HB6 := Aside0.mk hB6; clear hE6 hB6 HE5 HBy HZ5 HV5 HY HK5 d4) | ((with_reducible refine gate_store (t := 24) (p := 2) rfl ?_); refine HW.store_box' rfl rfl 24 _ _ rfl rfl rfl HZ6.out rfl (by kernel_rfl) (by intro q hq; simp only [List.mem_cons, List.not_mem_nil, or_false] at hq; rcases hq with rfl | rfl | rfl | rfl | rfl <;> rfl) ?_; intro wz hk hg; have HEz := Aside0.mk (ear_At.grown HE6.out hg HZ6.out ((ear_At.keep HE6.out).fresh hg HWK.out)); have HBz := Aside0.mk (HB6.out.grown hg HB6.out.size (fun k he => by injection he with he; have := HW0.out; omega)); have HZz := Aside0.mk hk; clear hk hg HE6 HB6 HZ6))
            (try rw [Exit.noGoto_ret])
            refine bodyPost_ret (ear_results2 rfl _ _ w.heap.size 24 _ (0, 0) _ rfl HZz.out Try.underlying24 rfl (by kernel_rfl)) rfl ?_
            exact ⟨.slice none 0 0, _, HT.out.symm, rfl, fun h => Bool.noConfusion h, HEz.out, ⟨HN2.out.1.1, HN2.out.1.2.1, HN2.out.1.2.2.1, HN2.out.1.2.2.2.1, fun h => Bool.noConfusion h⟩, HBz.out⟩
        · have HT : Aside0 (headT l (l.length + 1 - s.2.1) s = headT l k s3) := ⟨by rw [HQ.out, headT, ← HS3.out, if_pos HB0.out, ← HFQ.out, if_neg he0, if_neg he1]⟩
          have he2 : ¬ e4 = 42 := fun h => he1 (.inl h)
          have he3 : ¬ e4 = 41 := fun h => he1 (.inr h)
          clear he1
          go_wp2_with (first | ((with_reducible refine gate_store (t := 24) (p := 5) rfl ?_); refine HW.store_box' rfl rfl 24 _ _ rfl rfl rfl (blk_new _ _) rfl (by kernel_rfl) (by intro q hq; simp only [List.mem_cons, List.not_mem_nil, or_false] at hq; rcases hq with rfl | rfl | rfl | rfl | rfl <;> rfl) ?_; intro wy hk hg; have HK5 := Aside0.mk (((ear_At.keep HE4.out).below (below_alloc (Below.refl _ _) _)).fresh hg (Nat.le_trans (ear_At.keep HE4.out).1 (Nat.le_refl _))); have HE5 := Aside0.mk (ear_At.grown (ear_At.below HE4.out (below_alloc (Below.refl _ _) _)) hg (blk_new _ _) HK5.out); have HBy := Aside0.mk ((below_alloc HB5.out _).grown hg (below_alloc HB5.out _).size (fun k he => by injection he with he; have := HB5.out.size; omega)); have HZ5 := Aside0.mk (blk_grown (blk_alloc HZ4.out _) hg (fun e => by injection e with e; have := blk_lt HZ4.out; omega)); have HV5 := Aside0.mk (frame_R_far (Kd.R_below HV4.out (below_alloc (Below.refl _ _) _)) hg (blk_new _ _)); have HY := Aside0.mk hk; have d4 : wy.cell? ⟨g, 4, none⟩ = some (.int .i64 s3.2.2.2.2.1) := (by obtain ⟨_, vq, hbq, _, _⟩ := HE5.out; exact (blk_cell hbq 4).trans rfl); clear hk hg HE4 HB5 HZ4 HV4))
          have hlt := HN2.out.2.2 HB0.out
          have hle := HN2.out.1.1
          go_roundw
          case rel => exact ⟨k, s3, by omega, ⟨HN2.out.1⟩, HT, HE5, HBy, HZ5⟩
          case measure =>
            obtain ⟨q, hq1, hq2⟩ := HM.out
            have hy : wy.cell? ⟨g, 1, none⟩ = some (.int .i64 (s3.2.1 : Int)) := by
              obtain ⟨_, vq, hbq, _, _⟩ := HE5.out
              exact (blk_cell hbq 1).trans rfl
            rw [hq1, hy]
            show l.length - (s3.2.1 : Int).toNat < l.length - q.toNat
            omega
/-- The place behind what is stuffed, and the state behind it. -/
def endT (l : List Int) (s : EarS) : Nat × EarS :=
  if s.2.2.1 = 5 then
    (if s.2.1 = l.length then (0, false, s.2.1, s.2.2.1, s.2.2.2.1, (s.2.1 : Int), 1)
     else if l.getD s.2.1 0 = l.getD s.2.2.2.2.1.toNat 0 then (0, false, s.2.1, s.2.2.1, s.2.2.2.1, (s.2.1 : Int), 2)
     else (s.2.1 + 1, true, s.2))
  else (s.2.1, true, s.2)
set_option maxHeartbeats 3200000 in
set_option maxRecDepth 100000 in
theorem ear_end (g : Nat) (A0 : Option Addr) (c0 : Nat) (l : List Int) (s : EarS) (wk w0 w : World) (h : ear_Is wk w g w0.heap.size A0 c0 l s) (ho : ear_Ok l s) (hb : s.1 = true) (hB : Below w0.heap.size w0 w) (hr : Kd.C (Kd.int .i64) w0 A0 l.length l) (hc : l.length ≤ c0) (hn : l.length ≤ 1000000) :
    Calls Try.prog 51 #[.pointer (some ⟨g, 0, none⟩)] w fun e w' => e = .returned (.tuple #[.int .i64 ((endT l s).1 : Int), .bool (endT l s).2.1]) ∧ ear_Is wk w' g w0.heap.size A0 c0 l (endT l s).2 ∧ Below w0.heap.size w0 w' := by
  obtain ⟨b, tt, run, had, at_, fault⟩ := s
  obtain ⟨h1, _, _, _, h5⟩ := ho
  obtain ⟨h6, h7⟩ := h5 hb
  dsimp only at h1 h6 h7
  clear hb h5
  have hE : ear_At wk w g w0.heap.size A0 c0 l (tt : Int) run had at_ fault := h
  clear h
  have HE := Aside0.mk hE
  have HB := Aside0.mk hB
  have HR := Aside0.mk hr
  have HC := Aside0.mk hc
  obtain ⟨hg0, v, hbk, hRh, _⟩ := hE
  have d0 : w.cell? ⟨g, 0, none⟩ = some (.slice A0 l.length c0) := (blk_cell hbk 0).trans rfl
  have d1 : w.cell? ⟨g, 1, none⟩ = some (.int .i64 (tt : Int)) := (blk_cell hbk 1).trans rfl
  have d2 : w.cell? ⟨g, 2, none⟩ = some (.int .i64 run) := (blk_cell hbk 2).trans rfl
  have d4 : w.cell? ⟨g, 4, none⟩ = some (.int .i64 at_) := (blk_cell hbk 4).trans rfl
  have HRr := Kd.C_below hr hB
  clear hB hr hc hbk hRh hg0
  by_cases hrun : run = 5
  · by_cases ht : tt = l.length
    · have hT : endT l (b, tt, run, had, at_, fault) = (0, false, tt, run, had, (tt : Int), 1) := by unfold endT; rw [if_pos hrun, if_pos ht]
      have HT := Aside0.mk hT
      have q1 : ((tt : Int) == (l.length : Int)) = true := by simp [ht]
      have q2 : ((tt : Int) = (l.length : Int)) = True := eq_true (by omega)
      clear hT ht h1 h6 h7 HRr
      go_enter Try.func51, Try.ntmps51
      go_wp2
      go_quiet (fail)
      go_wp2_with (go_at_call 53; refine (ear_wrong g w0.heap.size A0 c0 l (tt : Int) run had at_ fault 1 (tt : Int) wk w0 _ (HE.out.drewN _) (pw_below_drewN HB.out _)).mono ?_; rintro e w1 ⟨rfl, hE1, hB1⟩)
      go_ret2
      rw [HT.out]
      exact ⟨rfl, hE1, hB1⟩
    · obtain ⟨an, rfl⟩ : ∃ n : Nat, at_ = (n : Int) := ⟨at_.toNat, by omega⟩
      have hlt : tt < l.length := by omega
      obtain ⟨ad, e1, hx⟩ := Kd.at_int HRr (tt : Int) (by omega) (by omega)
      subst e1
      obtain ⟨ad', e4, hx'⟩ := Kd.at_int HRr (an : Int) (by omega) (by omega)
      cases e4
      rw [Int.toNat_natCast] at hx hx'
      have q1 : ((tt : Int) == (l.length : Int)) = false := beq_eq_false_iff_ne.mpr (by omega)
      have q2 : ((tt : Int) = (l.length : Int)) = False := eq_false (by omega)
      have b1 : ((tt : Int) < (l.length : Int)) = True := eq_true (by omega)
      have b2 : ((an : Int) < (l.length : Int)) = True := eq_true (by omega)
      by_cases hal : rd l (tt : Int) = rd l (an : Int)
      · have hT : endT l (b, tt, run, had, (an : Int), fault) = (0, false, tt, run, had, (tt : Int), 2) := by
          unfold endT; rw [if_pos hrun, if_neg ht, if_pos (by show l.getD tt 0 = l.getD ((an : Int)).toNat 0; simpa [rd] using hal)]
        have HT := Aside0.mk hT
        have q3 : (rd l (tt : Int) == rd l (an : Int)) = true := beq_iff_eq.mpr hal
        clear hT ht h1 h6 h7 hal HRr
        go_enter Try.func51, Try.ntmps51
        go_wp2
        go_quiet (fail)
        go_wp2
        go_quiet (fail)
        go_wp2_with (go_at_call 53; refine (ear_wrong g w0.heap.size (some ad) c0 l (tt : Int) run had (an : Int) fault 2 (tt : Int) wk w0 _ (HE.out.below (pw_below_drewN (Below.refl _ _) _)) (pw_below_drewN HB.out _)).mono ?_; rintro e w1 ⟨rfl, hE1, hB1⟩)
        go_ret2
        rw [HT.out]
        exact ⟨rfl, hE1, hB1⟩
      · have hT : endT l (b, tt, run, had, (an : Int), fault) = (tt + 1, true, tt, run, had, (an : Int), fault) := by
          unfold endT; rw [if_pos hrun, if_neg ht, if_neg (by show ¬ l.getD tt 0 = l.getD ((an : Int)).toNat 0; simpa [rd] using hal)]
        have HT := Aside0.mk hT
        have q3 : (rd l (tt : Int) == rd l (an : Int)) = false := beq_eq_false_iff_ne.mpr hal
        have e2 : wrap64 ((tt : Int) + 1) = ((tt + 1 : Nat) : Int) := by unfold wrap64; omega
        clear hT ht h1 h6 h7 hal HRr
        go_enter Try.func51, Try.ntmps51
        go_wp2
        go_quiet (fail)
        go_wp2
        go_quiet (fail)
        go_wp2
        go_ret2
        rw [HT.out]
        exact ⟨rfl, HE.out.below (pw_below_drewN (Below.refl _ _) _), pw_below_drewN HB.out _⟩
  · have hT : endT l (b, tt, run, had, at_, fault) = (tt, true, tt, run, had, at_, fault) := by unfold endT; rw [if_neg hrun]
    have HT := Aside0.mk hT
    clear hT h1 h6 h7 HRr
    go_enter Try.func51, Try.ntmps51
    go_wp2
    go_ret2
    rw [HT.out]
    exact ⟨rfl, HE.out, HB.out⟩
theorem hearT_pre (l : List Int) : ∀ (k tt : Nat) (run : Int) (had : List Int) (a f : Int), ∃ t, (hearT l k tt run had a f).2.2.2.1 = had ++ t := by
  intro k
  induction k with
  | zero => intro tt run had a f; exact ⟨[], by unfold hearT; simp⟩
  | succ k ih =>
    intro tt run had a f
    unfold hearT
    by_cases hlt : tt < l.length
    · rw [if_pos hlt]
      by_cases hr : run = 5
      · rw [if_pos hr]
        by_cases ha : 0 < tt ∧ l.getD (tt - 1) 0 = l.getD tt 0
        · rw [if_pos ha]; exact ⟨[], by simp⟩
        · rw [if_neg ha]; exact ih (tt + 1) 1 had a f
      · rw [if_neg hr]; exact ⟨[l.getD tt 0], rfl⟩
    · rw [if_neg hlt]; exact ⟨[], by simp⟩
/-- So many more bits, as long as it goes on. -/
def manyT (l : List Int) : Nat → EarS → EarS
  | 0, s => s
  | k + 1, s => manyT l k (if s.1 = true then ear_next l s else s)
theorem endT_had (l : List Int) (s : EarS) : (endT l s).2.2.2.2.1 = s.2.2.2.1 := by unfold endT; split <;> (try split) <;> (try split) <;> rfl
theorem endT_le (l : List Int) (s : EarS) (h : s.2.1 ≤ l.length) : (endT l s).1 ≤ l.length := by
  unfold endT; split <;> (try split) <;> (try split) <;> dsimp only <;> omega
def sumH (l : List Int) (s : EarS) : EarS := headT l (l.length + 1 - s.2.1) s
def sumM (l : List Int) (s : EarS) : EarS := manyT l 15 (sumH l s)
/-- The place behind a head and its sum, and the state behind them. -/
def sumT (l : List Int) (s : EarS) : Nat × EarS :=
  if (sumM l s).1 = true then
    (if (endT l (sumM l s)).2.1 = true then
      (if (H.getB ((sumM l s).2.2.2.1.drop (sumH l s).2.2.2.1.length)).1 = ((H.crcB ((sumM l s).2.2.2.1.take (sumH l s).2.2.2.1.length)).toNat : Int) then ((endT l (sumM l s)).1, (endT l (sumM l s)).2)
       else (0, false, (endT l (sumM l s)).2.2.1, (endT l (sumM l s)).2.2.2.1, (endT l (sumM l s)).2.2.2.2.1, ((endT l (sumM l s)).1 : Int) - 1, 4))
     else (0, (endT l (sumM l s)).2))
  else (0, sumM l s)
theorem ear_Cells_size (b : Bool) (had : List Int) (v : Value) : (ear_Cells b had v).size = 5 := by unfold ear_Cells; cases b <;> rfl
theorem ear_Cells_one (b : Bool) (had : List Int) (v : Value) (hv : b = true → ∃ A n c, v = .slice A n c) : ∀ q ∈ (ear_Cells b had v).toList, q.oneCell' = true := by
  cases b with
  | false => intro q hq; simp [ear_Cells, ear_zs] at hq; rcases hq with rfl | rfl | rfl | rfl | rfl <;> rfl
  | true =>
    obtain ⟨A, n, c, rfl⟩ := hv rfl
    intro q hq; simp [ear_Cells] at hq; rcases hq with rfl | rfl | rfl | rfl | rfl <;> rfl
set_option maxHeartbeats 3200000 in
set_option maxRecDepth 100000 in
theorem ear_sum (g : Nat) (A0 : Option Addr) (c0 : Nat) (l : List Int) (s : EarS) (wk w0 w : World) (h : ear_Is wk w g w0.heap.size A0 c0 l s) (ho : ear_Ok l s) (hB : Below w0.heap.size w0 w) (hr : Kd.C (Kd.int .i64) w0 A0 l.length l) (hc : l.length ≤ c0) (hn : l.length ≤ 1000000) (hw : ∀ x ∈ l, H.W64 x) :
    Calls Try.prog 34 #[.pointer (some ⟨g, 0, none⟩)] w fun e w' => ∃ (v4 : Value) (r : Nat × EarS), r = sumT l s ∧ e = .returned (.tuple #[.agg (ear_Cells r.2.1 (sumH l s).2.2.2.1 v4), .int .i64 (r.1 : Int), .bool r.2.1]) ∧ (r.2.1 = true → Kd.R (Kd.int .u8) 5 w' w0.heap.size (fun _ => True) v4 (frame_readB (sumH l s).2.2.2.1).2.2.2.2.2.1) ∧ ear_Is wk w' g w0.heap.size A0 c0 l r.2 ∧ Below w0.heap.size w0 w' ∧ r.1 ≤ l.length := by
  have hu := Try.underlying24
  have HE := Aside0.mk h
  have HO := Aside0.mk ho
  have HB := Aside0.mk hB
  have HR := Aside0.mk hr
  have HC := Aside0.mk hc
  have HN := Aside0.mk hn
  have HWD := Aside0.mk hw
  have HWK : Aside0 (wk.heap.size ≤ w.heap.size) := ⟨(ear_At.keep h).1⟩
  have HW0 : Aside0 (w0.heap.size ≤ w.heap.size) := ⟨hB.size⟩
  clear h ho hB hr hc hn hw
  go_enter Try.func34, Try.ntmps34
  go_wp2_with fail
  refine (ear_head g A0 c0 l s _ w0 _ (ear_At.to (ear_At.below HE.out (below_alloc (Below.refl _ _) _)) (ear_Keep.refl _)) HO.out (below_alloc HB.out _) HR.out HC.out HN.out HWD.out).mono ?_
  rintro e w1 ⟨v4, s1, hs1, rfl, hV1, hE1, hO1, hB1⟩
  have HS1 : Aside0 (s1 = sumH l s) := ⟨hs1⟩
  have HO1 := Aside0.mk hO1
  have HV1 := Aside0.mk hV1
  have HB1 := Aside0.mk hB1
  have HZ1 := Aside0.mk ((ear_At.keep hE1).2 _ _ _ (blk_new _ _) (by decide) (by decide))
  have HE1 : Aside0 (ear_Is wk w1 g w0.heap.size A0 c0 l s1) := ⟨ear_At.to hE1 (((ear_At.keep HE.out).below (below_alloc (Below.refl _ _) _)).trans (ear_At.keep hE1))⟩
  obtain ⟨cs, hcs⟩ : ∃ cs, cs = ear_Cells s1.1 s1.2.2.2.1 v4 := ⟨_, rfl⟩
  rw [← hcs]
  have HCZ : Aside0 (cs.size = 5) := ⟨by rw [hcs]; exact ear_Cells_size _ _ _⟩
  have HC1 : Aside0 (∀ q ∈ cs.toList, q.oneCell' = true) := ⟨by rw [hcs]; exact ear_Cells_one _ _ _ (fun h => by obtain ⟨A, c, e⟩ := Kd.R_slice (hV1 h); exact ⟨_, _, _, e⟩)⟩
  have HCS := Aside0.mk hcs
  clear hs1 hO1 hV1 hE1 hB1 HE HO HB hcs
  go_wp2_with (first | ((with_reducible refine gate_store (t := 24) (p := 5) rfl ?_); refine HW.store_box' rfl rfl 24 _ _ rfl rfl rfl (blk_new _ _) HCZ.out (by rw [HCZ.out]; kernel_rfl) HC1.out ?_; intro wy hk hg; have HK5 := Aside0.mk (((ear_At.keep HE1.out).below (below_alloc (Below.refl _ _) _)).fresh hg (Nat.le_trans (ear_At.keep HE1.out).1 (Nat.le_refl _))); have HE5 := Aside0.mk (ear_At.grown (ear_At.below HE1.out (below_alloc (Below.refl _ _) _)) hg (blk_new _ _) HK5.out); have HB5 := Aside0.mk ((below_alloc HB1.out _).grown hg (below_alloc HB1.out _).size (fun k he => by injection he with he; have := HB1.out.size; omega)); have HZ5 := Aside0.mk (blk_grown (blk_alloc HZ1.out _) hg (fun e => by injection e with e; have := blk_lt HZ1.out; omega)); have HV5 : Aside0 (s1.1 = true → Kd.R (Kd.int .u8) 5 wy w0.heap.size (fun _ => True) v4 (frame_readB s1.2.2.2.1).2.2.2.2.2.1) := ⟨fun h => frame_R_far (Kd.R_below (HV1.out h) (below_alloc (Below.refl _ _) _)) hg (blk_new _ _)⟩; have HY := Aside0.mk hk; obtain ⟨vq_, d3, ln_⟩ : ∃ (vq : Value), wy.cell? ⟨g, 3, none⟩ = some vq ∧ ∃ A c, vq = .slice A s1.2.2.2.1.length c := (by obtain ⟨_, vq, hbq, hrq, _⟩ := HE5.out; obtain ⟨A, c, e⟩ := Kd.R_slice hrq; exact ⟨vq, (blk_cell hbq 3).trans rfl, A, c, e⟩); obtain ⟨Aq_, cq_, rfl⟩ := ln_; clear hk hg HE1 HB1 HZ1 HV1))
  go_loopw [21, 6] (fun v x wr => ∃ (j : Nat) (s2 : EarS), j ≤ 15 ∧ v = .int .i64 (j : Int) ∧ x = .bool s2.1 ∧ Aside0 (ear_Ok l s2) ∧ Aside0 (manyT l 15 s1 = manyT l (15 - j) s2) ∧ Aside0 (s1.2.2.2.1.length ≤ s2.2.2.2.1.length) ∧ Aside0 (s2.1 = true → s1.1 = true) ∧ Aside0 (ear_Is wy wr g w0.heap.size A0 c0 l s2) ∧ Aside0 (Below w0.heap.size w0 wr))
    (fun v _ _ => 15 - (intOf v).toNat)
  case atStart => exact ⟨0, s1, by omega, rfl, rfl, HO1, ⟨rfl⟩, ⟨Nat.le_refl _⟩, ⟨id⟩, ⟨ear_At.to HE5.out (ear_Keep.refl _)⟩, HB5⟩
  case round =>
    clear d3
    obtain ⟨j, s2, hj, rfl, rfl, HO2, HQ, HLN, HIS, HE2, HB2⟩ := hrel
    by_cases hlt : j < 15
    · have q1 : ((j : Int) < 15) = True := eq_true (by omega)
      have e1 : wrap64 ((j : Int) + 1) = ((j + 1 : Nat) : Int) := by unfold wrap64; omega
      cases hb : s2.1 with
      | false =>
        have HQ2 : Aside0 (manyT l 15 s1 = manyT l (15 - (j + 1)) s2) := ⟨by rw [HQ.out, show 15 - j = (15 - (j + 1)) + 1 by omega, manyT, if_neg (by rw [hb]; exact Bool.false_ne_true)]⟩
        have HBF := Aside0.mk hb
        clear hb
        go_wp2_with fail
        go_roundw
        case rel => exact ⟨j + 1, s2, by omega, by first | rfl | exact congrArg _ e1 | simp, by rw [HBF.out], HO2, HQ2, HLN, HIS, HE2, HB2⟩
        case measure => simp [intOf]; omega
      | true =>
        have hn2 := ear_next_ok HO2.out
        have hp2 : s1.2.2.2.1.length ≤ (ear_next l s2).2.2.2.1.length := by
          obtain ⟨t, ht⟩ := hearT_pre l (l.length + 1 - s2.2.1) s2.2.1 s2.2.2.1 s2.2.2.2.1 s2.2.2.2.2.1 s2.2.2.2.2.2
          have := HLN.out
          unfold ear_next
          rw [ht, List.length_append]; omega
        have HQ2 : Aside0 (manyT l 15 s1 = manyT l (15 - (j + 1)) (ear_next l s2)) := ⟨by rw [HQ.out, show 15 - j = (15 - (j + 1)) + 1 by omega, manyT, if_pos hb]⟩
        have HIS2 : Aside0 ((ear_next l s2).1 = true → s1.1 = true) := ⟨fun _ => HIS.out hb⟩
        have HN2 := Aside0.mk hn2.1
        have HP2 := Aside0.mk hp2
        clear hb hn2 hp2
        go_wp2_with (go_at_call 50; refine (ear_hears g A0 c0 l s2 wy w0 _ HE2.out HO2.out HB2.out HR.out HC.out HN.out).mono ?_; rintro e w3 ⟨rfl, hE3, hB3⟩; have HE3 := Aside0.mk hE3; have HB3 := Aside0.mk hB3; clear hE3 hB3)
        go_roundw
        case rel => exact ⟨j + 1, ear_next l s2, by omega, by first | rfl | exact congrArg _ e1 | simp, rfl, HN2, HQ2, HP2, HIS2, HE3, HB3⟩
        case measure => simp [intOf]; omega
    · obtain rfl : j = 15 := by omega
      have HM : Aside0 (s2 = sumM l s) := ⟨by unfold sumM; rw [← HS1.out, HQ.out]; rfl⟩
      have HK2 := Aside0.mk (ear_At.keep HE2.out)
      have HZr := Aside0.mk (HK2.out.2 _ _ _ HZ5.out (by decide) (by decide))
      have HYr := Aside0.mk (HK2.out.2 _ _ _ HY.out (by decide) (by decide))
      have HVr : Aside0 (s1.1 = true → Kd.R (Kd.int .u8) 5 wr w0.heap.size (fun _ => True) v4 (frame_readB s1.2.2.2.1).2.2.2.2.2.1) := ⟨fun h => HK2.out.bytes (HV5.out h)⟩
      have HEr : Aside0 (ear_Is wk wr g w0.heap.size A0 c0 l s2) := ⟨ear_At.to HE2.out ((ear_At.keep HE5.out).trans HK2.out)⟩
      clear HE2 HZ5 HY HV5 HE5 HK2 HB5 HQ HK5
      cases hb : s2.1 with
      | false =>
        have HT : Aside0 ((0, s2) = sumT l s) := ⟨by unfold sumT; rw [← HM.out, if_neg (by rw [hb]; exact Bool.false_ne_true)]⟩
        have HBF := Aside0.mk hb
        clear hb
        go_wp2_with (first | ((with_reducible refine gate_store (t := 24) (p := 2) rfl ?_); refine HW.store_box' rfl rfl 24 _ _ rfl rfl rfl HZr.out rfl (by kernel_rfl) (by intro q hq; simp only [List.mem_cons, List.not_mem_nil, or_false] at hq; rcases hq with rfl | rfl | rfl | rfl | rfl <;> rfl) ?_; intro wz hk hg; have HEz := Aside0.mk (ear_At.grown HEr.out hg HZr.out ((ear_At.keep HEr.out).fresh hg HWK.out)); have HBz := Aside0.mk (HB2.out.grown hg HB2.out.size (fun k he => by injection he with he; have := HW0.out; omega)); have HZz := Aside0.mk hk; clear hk hg HEr HB2 HZr HYr HVr))
        (try rw [Exit.noGoto_ret])
        refine bodyPost_ret (ear_results3 rfl _ _ w.heap.size 24 _ (0, 0) _ rfl HZz.out Try.underlying24 rfl (by kernel_rfl)) rfl ?_
        refine ⟨.slice none 0 0, (0, s2), HT.out, ?_, fun h => ?_, HEz.out, HBz.out, Nat.zero_le _⟩
        · show _ = Ending.returned (.tuple #[.agg (ear_Cells s2.1 (sumH l s).2.2.2.1 (.slice none 0 0)), .int .i64 0, .bool s2.1])
          rw [HBF.out]; rfl
        · exact absurd (HBF.out.symm.trans h) Bool.false_ne_true
      | true =>
        have he := ear_end g A0 c0 l s2 wr w0 wr (ear_At.to HEr.out (ear_Keep.refl _)) HO2.out hb HB2.out HR.out HC.out HN.out
        have hle := endT_le l s2 HO2.out.1
        have hhd := endT_had l s2
        have hs1 := HIS.out hb
        obtain ⟨⟨e1, se⟩, hse⟩ : ∃ q, q = endT l s2 := ⟨_, rfl⟩
        rw [← hse] at he hle hhd
        dsimp only at he hle hhd
        have HEN := Aside0.mk he
        have HLE := Aside0.mk hle
        have HHD := Aside0.mk hhd
        have HSE := Aside0.mk hse
        have HBT := Aside0.mk hb
        have HST := Aside0.mk hs1
        clear he hle hhd hse hb hs1 HIS
        go_wp2_with fail
        refine HEN.out.mono ?_
        rintro e w3 ⟨rfl, hE3, hB3⟩
        have HK3 := Aside0.mk (ear_At.keep hE3)
        have HZ3 := Aside0.mk (HK3.out.2 _ _ _ HZr.out (by decide) (by decide))
        have HY3 := Aside0.mk (HK3.out.2 _ _ _ HYr.out (by decide) (by decide))
        have HV3 := Aside0.mk (HK3.out.bytes (HVr.out HST.out))
        have HE3 : Aside0 (ear_Is wk w3 g w0.heap.size A0 c0 l se) := ⟨ear_At.to hE3 ((ear_At.keep HEr.out).trans HK3.out)⟩
        have HB3 := Aside0.mk hB3
        clear hE3 hB3 HEr HZr HYr HVr HK3 HEN HB2
        cases hb3 : se.1 with
        | false =>
          have HT : Aside0 ((0, se) = sumT l s) := ⟨by unfold sumT; rw [← HM.out, if_pos HBT.out, ← HSE.out, if_neg (by show ¬ se.1 = true; rw [hb3]; exact Bool.false_ne_true)]⟩
          have HBF := Aside0.mk hb3
          clear hb3
          go_wp2_with (first | ((with_reducible refine gate_store (t := 24) (p := 2) rfl ?_); refine HW.store_box' rfl rfl 24 _ _ rfl rfl rfl HZ3.out rfl (by kernel_rfl) (by intro q hq; simp only [List.mem_cons, List.not_mem_nil, or_false] at hq; rcases hq with rfl | rfl | rfl | rfl | rfl <;> rfl) ?_; intro wz hk hg; have HEz := Aside0.mk (ear_At.grown HE3.out hg HZ3.out ((ear_At.keep HE3.out).fresh hg HWK.out)); have HBz := Aside0.mk (HB3.out.grown hg HB3.out.size (fun k he => by injection he with he; have := HW0.out; omega)); have HZz := Aside0.mk hk; clear hk hg HE3 HB3 HZ3 HY3 HV3))
          (try rw [Exit.noGoto_ret])
          refine bodyPost_ret (ear_results3 rfl _ _ w.heap.size 24 _ (0, 0) _ rfl HZz.out Try.underlying24 rfl (by kernel_rfl)) rfl ?_
          refine ⟨.slice none 0 0, (0, se), HT.out, ?_, fun h => ?_, HEz.out, HBz.out, Nat.zero_le _⟩
          · show _ = Ending.returned (.tuple #[.agg (ear_Cells se.1 (sumH l s).2.2.2.1 (.slice none 0 0)), .int .i64 0, .bool se.1])
            rw [HBF.out]; rfl
          · exact absurd (HBF.out.symm.trans h) Bool.false_ne_true
        | true =>
          obtain ⟨hg0, v, hbk, hRh, _⟩ := HE3.out
          obtain ⟨A5, c5, rfl⟩ := Kd.R_slice hRh
          obtain ⟨_, hc5, hC5⟩ := Kd.R_reads' hRh
          have d3 : w3.cell? ⟨g, 3, none⟩ = some (.slice A5 se.2.2.2.1.length c5) := (blk_cell hbk 3).trans rfl
          have hn5 : s1.2.2.2.1.length ≤ se.2.2.2.1.length := by rw [HHD.out]; exact HLN.out
          have hm5 : se.2.2.2.1.length ≤ 1000000 := by rw [HHD.out]; have := HO2.out.1; have := HO2.out.2.2.1; have := HN.out; omega
          have hw5 : ∀ x ∈ se.2.2.2.1, H.W64 x := fun x hx => by rw [HHD.out] at hx; exact HWD.out x (HO2.out.2.2.2.1 x hx)
          obtain ⟨n, hnn⟩ : ∃ n, n = s1.2.2.2.1.length := ⟨_, rfl⟩
          rw [← hnn] at hn5
          obtain ⟨K, hKb⟩ := fb_get_k (se.2.2.2.1.drop n) (by rw [List.length_drop]; omega) (fun x hx => hw5 x (List.mem_of_mem_drop hx))
          have hkb := hKb K (Nat.le_refl _)
          obtain ⟨⟨gv, gs⟩, hgv⟩ : ∃ p, p = H.getB (se.2.2.2.1.drop n) := ⟨_, rfl⟩
          rw [← hgv] at hkb
          obtain ⟨i0, hi, hz0, hz1, hz2⟩ := info_parts info3
          have hcut1 := cut_from (P := Try.prog) 25 3 .i64 Try.underlying25 hi 1 hz1 A5 se.2.2.2.1.length c5 (n : Int) (by omega) (by omega)
          have hcut2 := cut_to (P := Try.prog) 25 3 .i64 Try.underlying25 hi A5 se.2.2.2.1.length c5 (n : Int) (by omega) (by omega) hc5
          rw [Int.toNat_natCast] at hcut1 hcut2
          have hD5 := Kd.C_drop (m := n) hC5 hn5 hc5
          have hT5 := Kd.C_take hC5 hn5
          have hsz1 : (Kd.int .i64).sz = 1 := rfl
          rw [Nat.mul_one] at hcut1
          rw [hsz1, Nat.mul_one] at hD5
          generalize hAe : (if c5 = n then A5 else A5.map (fun x => x.add n)) = A6 at hcut1 hD5
          have htl : (se.2.2.2.1.take n).length = n := by rw [List.length_take]; omega
          have hcrc : ∀ W : World, Below w3.heap.size w3 W → Calls Try.prog 29 #[.slice A5 n c5] W fun e w' => e = .returned (.int .i64 ((H.crcB (se.2.2.2.1.take n)).toNat : Int)) ∧ Below W.heap.size W w' := fun W hW => by
            have := crc_Bits.calls A5 c5 (se.2.2.2.1.take n) _ W (Kd.C_below hT5 hW) (by rw [htl]; omega) rfl
            rw [htl] at this
            exact this
          have hget : ∀ W : World, Below w3.heap.size w3 W → Calls Try.prog 52 #[.slice A6 (se.2.2.2.1.length - n) (c5 - n)] W fun e w' => e = .returned (.tuple #[.int .i64 gv, .bool gs]) ∧ Drawn0 W w' := fun W hW => by
            have := bits_Get.calls K A6 (c5 - n) (se.2.2.2.1.drop n) gv gs W (Kd.C_below hD5 hW) (by rw [List.length_drop]; omega) hkb
            rw [List.length_drop] at this
            exact this
          have hE1 : wrap64 ((e1 : Int) - 1) = (e1 : Int) - 1 := by have := HLE.out; have := HN.out; unfold wrap64; omega
          have HCR := Aside0.mk hcrc
          have HGT := Aside0.mk hget
          have HGV := Aside0.mk hgv
          have HNN := Aside0.mk hnn
          have HB0 := Aside0.mk hb3
          rw [← hnn]
          clear hg0 hbk hRh hc5 hC5 hn5 hm5 hw5 hnn hKb hkb hgv hi hz0 hz1 hz2 hD5 hT5 hsz1 hAe htl hcrc hget hb3
          go_wp2_with fail
          refine (HGT.out _ (Below.refl _ _)).mono ?_
          rintro e w4 ⟨rfl, hd⟩
          obtain ⟨⟨nd, rfl⟩⟩ := hd
          have d3' : (w3.drewN nd).cell? ⟨g, 3, none⟩ = some (.slice A5 se.2.2.2.1.length c5) := d3
          go_wp2_with fail
          refine (HCR.out _ (pw_below_drewN (Below.refl _ _) _)).mono ?_
          rintro e w5 ⟨rfl, hB5⟩
          have hB35 : Below w3.heap.size w3 w5 := (pw_below_drewN (Below.refl _ _) nd).trans hB5
          have HE5 := Aside0.mk (ear_At.below HE3.out hB35)
          have HB5 := Aside0.mk (HB3.out.trans (hB35.mono HB3.out.size))
          have HZ5 := Aside0.mk (blk_below HZ3.out hB35)
          have HY5 := Aside0.mk (blk_below HY3.out hB35)
          have HV5 := Aside0.mk (Kd.R_below HV3.out hB35)
          clear hB5 hB35 HE3 HB3 HZ3 HY3 HV3 d3 d3' hcut1 hcut2
          obtain ⟨cr, hcr⟩ : ∃ cr : Int, cr = ((H.crcB (se.2.2.2.1.take n)).toNat : Int) := ⟨_, rfl⟩
          rw [← hcr]
          have HCRV := Aside0.mk hcr
          clear hcr
          by_cases heq : gv = cr
          · have HT : Aside0 ((e1, se) = sumT l s) := ⟨by unfold sumT; rw [← HM.out, if_pos HBT.out, ← HSE.out, ← HS1.out, ← HNN.out, if_pos (by exact HB0.out), ← HHD.out, ← HGV.out, if_pos (heq.trans HCRV.out)]⟩
            subst heq
            go_wp2_with (first | ((with_reducible refine gate_dst (N := 64) rfl ?_); refine wpList_load_row rfl 24 _ rfl _ rfl _ _ (0, 0) _ HY5.out Try.underlying24 rfl (by rw [HCZ.out]; kernel_rfl) ?_) | ((with_reducible refine gate_store (t := 24) (p := 2) rfl ?_); refine HW.store_box' rfl rfl 24 _ _ rfl rfl rfl HZ5.out HCZ.out (by rw [HCZ.out]; kernel_rfl) HC1.out ?_; intro wz hk hg; have HEz := Aside0.mk (ear_At.grown HE5.out hg HZ5.out ((ear_At.keep HE5.out).fresh hg HWK.out)); have HBz := Aside0.mk (HB5.out.grown hg HB5.out.size (fun k he => by injection he with he; have := HW0.out; omega)); have HVz := Aside0.mk (frame_R_far HV5.out hg HZ5.out); have HZz := Aside0.mk hk; clear hk hg HE5 HB5 HZ5 HV5))
            (try rw [Exit.noGoto_ret])
            refine bodyPost_ret (ear_results3 rfl _ _ w.heap.size 24 cs (0, 0) _ rfl HZz.out Try.underlying24 rfl (by rw [HCZ.out]; kernel_rfl)) rfl ?_
            refine ⟨v4, (e1, se), HT.out, ?_, fun _ => ?_, HEz.out, HBz.out, HLE.out⟩
            · show _ = Ending.returned (.tuple #[.agg (ear_Cells se.1 (sumH l s).2.2.2.1 v4), .int .i64 (e1 : Int), .bool se.1])
              rw [← HS1.out, HB0.out, HCS.out, HST.out]; rfl
            · rw [← HS1.out]; exact HVz.out
          · have HT : Aside0 ((0, false, se.2.1, se.2.2.1, se.2.2.2.1, (e1 : Int) - 1, 4) = sumT l s) := ⟨by unfold sumT; rw [← HM.out, if_pos HBT.out, ← HSE.out, ← HS1.out, ← HNN.out, if_pos (by exact HB0.out), ← HHD.out, ← HGV.out, if_neg (fun h => heq (h.trans HCRV.out.symm))]⟩
            go_wp2_with (first | (go_at_call 53; refine (ear_wrong g w0.heap.size A0 c0 l se.2.1 se.2.2.1 se.2.2.2.1 se.2.2.2.2.1 se.2.2.2.2.2 4 ((e1 : Int) - 1) w5 w0 _ (ear_At.to HE5.out (ear_Keep.refl _)) HB5.out).mono ?_; rintro e w6 ⟨rfl, hE6, hB6⟩; have HZ6 := Aside0.mk ((ear_At.keep hE6).2 _ _ _ HZ5.out (by decide) (by decide)); have HE6 := Aside0.mk (ear_At.to hE6 ((ear_At.keep HE5.out).trans (ear_At.keep hE6))); have HB6 := Aside0.mk hB6; clear hE6 hB6 HE5 HB5 HZ5 HY5 HV5) | ((with_reducible refine gate_store (t := 24) (p := 2) rfl ?_); refine HW.store_box' rfl rfl 24 _ _ rfl rfl rfl HZ6.out rfl (by kernel_rfl) (by intro q hq; simp only [List.mem_cons, List.not_mem_nil, or_false] at hq; rcases hq with rfl | rfl | rfl | rfl | rfl <;> rfl) ?_; intro wz hk hg; have HEz := Aside0.mk (ear_At.grown HE6.out hg HZ6.out ((ear_At.keep HE6.out).fresh hg HWK.out)); have HBz := Aside0.mk (HB6.out.grown hg HB6.out.size (fun k he => by injection he with he; have := HW0.out; omega)); have HZz := Aside0.mk hk; clear hk hg HE6 HB6 HZ6))
            (try rw [Exit.noGoto_ret])
            refine bodyPost_ret (ear_results3 rfl _ _ w.heap.size 24 _ (0, 0) _ rfl HZz.out Try.underlying24 rfl (by kernel_rfl)) rfl ?_
            exact ⟨.slice none 0 0, (0, false, se.2.1, se.2.2.1, se.2.2.2.1, (e1 : Int) - 1, 4), HT.out, rfl, fun h => Bool.noConfusion h, HEz.out, HBz.out, Nat.zero_le _⟩

end Go.Proofs.Ythgeekcobmhbfaa.Px

-- Written by myprint.py, a program of this session's, over the kit's print.py; not a text of print.sh's own.
import Derived.Test.YtfgbcpdlhdgofaaHandFive
import Derived.Test.YtfgbcpdlhdgofaaHandMark
import Derived.Test.YtfgbcpdlhdgofaaPx0
import Derived.Test.YtfgbcpdlhdgofaaPx1
namespace Go.Proofs.Ytfgbcpdlhdgofaa.Px
open Go.RowKit Go.Proofs.YtfgbcpdlhdgofaaW.PrintWords Go.Proofs.YtfgbcpdlhdgofaaW.PrintLast Go.Proofs.YtfgbcpdlhdgofaaW.PrintMore
attribute [local go_sem] max2_int min2_int max_two min_two max_three min_three max_four min_four   -- for this text's walks alone
set_option linter.unusedVariables false
set_option linter.unusedSimpArgs false

/-! ### image_Pack: function 13 -/
set_option maxHeartbeats 8000000 in
set_option maxRecDepth 100000 in
/-- The same, where what it begins with is read, and as long as it may be ('[]byte("..")'). -/
theorem image_lay_read (k : Nat) (ad0 : Addr) (l0 : List Int) (A1 : Option Addr) (c1 : Nat) (l1 : List Int) (r : List Int) (w : World) (hr0 : Kd.C (Kd.int .u8) w (some ad0) l0.length l0) (hr1 : Kd.C (Kd.int .i64) w A1 l1.length l1) (hc1 : l1.length ≤ c1) (hpos : 0 < l1.length) (h : image_lay.f k l0 l1 = some r) :
  Calls Try.prog 28 #[.slice (some ad0) l0.length l0.length, .slice A1 l1.length c1] w fun e w' => ∃ v0_ : Value, e = .returned (v0_) ∧ Kd.R (Kd.int .u8) 5 w' w.heap.size (fun _ => True) v0_ r ∧ Below w.heap.size w w' := by
 have HR0 := Aside0.mk hr0
 have HR1 := Aside0.mk hr1
 have HC1 := Aside0.mk hc1
 have HP := Aside0.mk hpos
 clear hr0 hr1 hc1 hpos
 have HB := Aside0.mk (Below.refl w.heap.size w)
 have H : (image_lay.l0 k l0 l1 (l1.length : Int) 0) = some r := h
 clear h
 have H' := Aside0.mk H
 clear H
 go_enter Try.func28, Try.ntmps28
 go_wp2
 go_loopg [0, 9] k (fun kq v0 v9 w' => ∃ (x0_1 : List Int) (x9_1 : Int), v9 = .int .i64 x9_1 ∧ Aside0 (image_lay.l0 kq x0_1 l1 (l1.length : Int) x9_1 = some r) ∧ Aside0 (kq ≤ k) ∧ Aside0 ((x9_1 = 0 ∧ v0 = .slice (some ad0) l0.length l0.length ∧ x0_1 = l0) ∨ Kd.R (Kd.int .u8) 5 w' w.heap.size (fun _ => True) v0 x0_1) ∧ Aside0 (Below w.heap.size w w'))
 case atStart => exact ⟨l0, 0, rfl, H', ⟨Nat.le_refl _⟩, ⟨.inl ⟨rfl, rfl, rfl⟩⟩, ⟨by repeat (first | (with_reducible first | exact HB.out | apply below_alloc | apply pw_below_drewN | apply below_drew1) | exact HB.out)⟩⟩
 case round =>
  clear H'
  obtain ⟨x0_1, x9_1, rfl, HA, HK1, HO_0, HB⟩ := hrel
  cases gk with
  | zero => exact absurd HA.out (by simp [image_lay.l0])
  | succ k1 =>
   have H := HA.out
   clear HA
   simp only [image_lay.l0] at H
   by_cases c3 : x9_1 < (l1.length : Int)
   ·rw [if_pos c3] at H
    have c3b0 : decide (x9_1 < (l1.length : Int)) = true := decide_eq_true c3
    clear c3
    by_cases c4 : 0 ≤ x9_1
    ·rw [if_pos c4] at H
     have c4b0 : decide (0 ≤ x9_1) = true := decide_eq_true c4
     clear c4
     by_cases c5 : x9_1 < (l1.length : Int)
     ·rw [if_pos c5] at H
      have c5b0 : decide (x9_1 < (l1.length : Int)) = true := decide_eq_true c5
      clear c5
      obtain ⟨y103, hy103⟩ : ∃ y_ : List Int, y_ = (([((rd l1 x9_1) / 16777216) % 256, ((rd l1 x9_1) / 65536) % 256, ((rd l1 x9_1) / 256) % 256, (rd l1 x9_1) % 256] : List Int)) := ⟨_, rfl⟩
      replace H : (if x0_1.length + y103.length < 140737488355328 then (image_lay.l0 k1 (x0_1 ++ y103) l1 (l1.length : Int) (wrap64 (x9_1 + 1))) else (none)) = some r := by rw [hy103]; exact H
      have HY4 := Aside0.mk (show y103.length = 4 by rw [hy103]; rfl)
      have Ny103 := Aside0.mk hy103
      clear hy103
      by_cases c6 : x0_1.length + y103.length < 140737488355328
      ·rw [if_pos c6] at H
       have LMc6 := Aside0.mk c6
       clear c6
       have H' := Aside0.mk H
       clear H
       have p102 : 0 ≤ (x9_1 : Int) := of_decide_eq_true (by first | (with_reducible assumption) | assumption)
       have q102 : x9_1 < (l1.length : Int) := of_decide_eq_true (by first | (with_reducible assumption) | assumption)
       obtain ⟨ad102, e102, hx102_0⟩ := Kd.at_int (Kd.C_below HR1.out HB.out) x9_1 p102 q102
       cases e102
       replace p102 := eq_true p102
       replace q102 := eq_true q102
       rcases HO_0.out with ⟨ex, ev, el⟩ | hO
       ·subst ev
        have HX := Aside0.mk ex
        have HL := Aside0.mk el
        clear ex el HO_0
        go_wp2_with (first | ((with_reducible refine gate_dst (N := 25) rfl ?_); refine Kd.R_lit (Kd.int .u8) _ 5 ?hg (N := 25) ?hd (xs := ([((rd l1 x9_1) / 16777216) % 256, ((rd l1 x9_1) / 65536) % 256, ((rd l1 x9_1) / 256) % 256, (rd l1 x9_1) % 256] : List Int)) (inner := [.int .u8 (((rd l1 x9_1) / 16777216) % 256), .int .u8 (((rd l1 x9_1) / 65536) % 256), .int .u8 (((rd l1 x9_1) / 256) % 256), .int .u8 ((rd l1 x9_1) % 256)]) (ok := fun _ => True) (okp := fun _ => True) ?hr ?hp (fun _ hk => hk) trivial (Below.refl _ _) (Nat.le_refl _) (by simp) ?_; (case hd => rfl); (case hg => rfl); (case hr => first | (go_simp; done) | (go_simp; rfl)); (case hp => exact (Reps.one (show Kd.M (Kd.int .u8) _ _ _ (((rd l1 x9_1) / 16777216) % 256) [.int .u8 (((rd l1 x9_1) / 16777216) % 256)] from rfl) (Reps.one (show Kd.M (Kd.int .u8) _ _ _ (((rd l1 x9_1) / 65536) % 256) [.int .u8 (((rd l1 x9_1) / 65536) % 256)] from rfl) (Reps.one (show Kd.M (Kd.int .u8) _ _ _ (((rd l1 x9_1) / 256) % 256) [.int .u8 (((rd l1 x9_1) / 256) % 256)] from rfl) (Reps.one (show Kd.M (Kd.int .u8) _ _ _ ((rd l1 x9_1) % 256) [.int .u8 ((rd l1 x9_1) % 256)] from rfl) (Reps.none _ _)))))); intro v104 w7 ho8 hb hg_ hnew_; clear hg_ hnew_; rw [← Ny103.out] at ho8; have HB' := Aside0.mk (below_step HB.out hb); have HO105 := Aside0.mk ho8; clear HB ho8 hb; have HB := HB'; clear HB'; obtain ⟨Ao10, co10, eo10⟩ := Kd.R_slice HO105.out; subst eo10) | ((with_reducible refine gate_builtin (b := .append) (xs := #[.tmp 13, .tmp 25]) rfl ?_); at_builtin; refine HW.append_read .u8 (w0 := w) w.heap.size rfl (.tmp 13) (.tmp 25) 22 5 1 rfl Try.underlying22 info5 (by decide) ad0 l0.length l0 y103 _ _ _ rfl rfl (Kd.C_below HR0.out HB.out) (Kd.R_reads' HO105.out).2.2 (by have := HY4.out; omega) HB.out (below_size HB.out) (by have := LMc6.out; have := HL.out; subst this; omega) ?_; intro v107 w9 ho hb hg; have HB' := Aside0.mk hb; have HO108 := Aside0.mk ho; clear HB ho hb hg HO105; have HB := HB'; clear HB'))
        go_roundg k1
        case measure => have := HK1.out; omega
        case rel => exact ⟨(x0_1 ++ y103), (wrap64 (x9_1 + 1)), (by first | rfl | (simp; done) | (simp [*]; done)), H', ⟨by have := HK1.out; omega⟩, ⟨.inr (by rw [HL.out]; exact HO108.out)⟩, ⟨HB.out⟩⟩
       ·have HO1 := Aside0.mk hO
        clear hO HO_0
        go_wp2_with (first | ((with_reducible refine gate_dst (N := 25) rfl ?_); refine Kd.R_lit (Kd.int .u8) _ 5 ?hg (N := 25) ?hd (xs := ([((rd l1 x9_1) / 16777216) % 256, ((rd l1 x9_1) / 65536) % 256, ((rd l1 x9_1) / 256) % 256, (rd l1 x9_1) % 256] : List Int)) (inner := [.int .u8 (((rd l1 x9_1) / 16777216) % 256), .int .u8 (((rd l1 x9_1) / 65536) % 256), .int .u8 (((rd l1 x9_1) / 256) % 256), .int .u8 ((rd l1 x9_1) % 256)]) (ok := fun _ => True) (okp := fun _ => True) ?hr ?hp (fun _ hk => hk) trivial (Below.refl _ _) (Nat.le_refl _) (by simp) ?_; (case hd => rfl); (case hg => rfl); (case hr => first | (go_simp; done) | (go_simp; rfl)); (case hp => exact (Reps.one (show Kd.M (Kd.int .u8) _ _ _ (((rd l1 x9_1) / 16777216) % 256) [.int .u8 (((rd l1 x9_1) / 16777216) % 256)] from rfl) (Reps.one (show Kd.M (Kd.int .u8) _ _ _ (((rd l1 x9_1) / 65536) % 256) [.int .u8 (((rd l1 x9_1) / 65536) % 256)] from rfl) (Reps.one (show Kd.M (Kd.int .u8) _ _ _ (((rd l1 x9_1) / 256) % 256) [.int .u8 (((rd l1 x9_1) / 256) % 256)] from rfl) (Reps.one (show Kd.M (Kd.int .u8) _ _ _ ((rd l1 x9_1) % 256) [.int .u8 ((rd l1 x9_1) % 256)] from rfl) (Reps.none _ _)))))); intro v104 w7 ho8 hb hg_ hnew_; clear hg_ hnew_; rw [← Ny103.out] at ho8; have n0_ := Aside0.mk (Kd.R_elder' HO1.out (Kd.R_base ho8) hb); have n1_ := Aside0.mk (Kd.R_lower (Kd.R_new' ho8 (Kd.R_lt HO1.out)) (below_size HB.out)); have HB' := Aside0.mk (below_step HB.out hb); clear HB HO1 ho8 hb; have HO1 := n0_; have HO105 := n1_; have HB := HB'; clear HB' n0_ n1_; obtain ⟨Ao10, co10, eo10⟩ := Kd.R_slice HO105.out; subst eo10) | ((with_reducible refine gate_builtin (b := .append) (xs := #[.tmp 13, .tmp 25]) rfl ?_); at_builtin; refine Kd.R_append_rows (Kd.int .u8) (w0 := w) w.heap.size rfl (.tmp 13) (.tmp 25) 22 5 (.int .u8 0) 1 rfl Try.underlying22 info5 rfl (by decide) (by omega) _ x0_1 y103 _ _ _ (fun _ => True) (fun _ => False) rfl rfl (Kd.R_mono HO1.out (fun _ _ => trivial)) (Kd.R_reads' HO105.out).2.2 (fun _ _ h => h) (fun _ h => h.elim) (fun _ _ => trivial) HB.out (below_size HB.out) (by have := LMc6.out; omega) ?_; intro v107 w9 ho hb hg hat; have HB' := Aside0.mk hb; have HO108 := Aside0.mk ho; clear HB ho hb hg hat HO105 HO1; have HB := HB'; clear HB'))
        go_roundg k1
        case measure => have := HK1.out; omega
        case rel => exact ⟨(x0_1 ++ y103), (wrap64 (x9_1 + 1)), (by first | rfl | (simp; done) | (simp [*]; done)), H', ⟨by have := HK1.out; omega⟩, ⟨.inr HO108.out⟩, ⟨HB.out⟩⟩
      ·rw [if_neg c6] at H
       exact absurd H (by simp)
     ·exfalso; (try simp only [decide_eq_true_eq, decide_eq_false_iff_not, beq_iff_eq, beq_eq_false_iff_ne, ne_eq] at c3b0); omega
    ·rw [if_neg c4] at H
     exact absurd H (by simp)
   ·rw [if_neg c3] at H
    have c3b0 : decide (x9_1 < (l1.length : Int)) = false := decide_eq_false c3
    have HO1 := Aside0.mk (HO_0.out.resolve_left (fun h_ => by have h1_ := h_.1; have := HP.out; omega))
    clear c3 HO_0
    obtain rfl := Option.some.inj H
    go_wp2
    go_ret
    exact ⟨_, rfl, HO1.out, HB.out⟩
def image_Pack.j0 : Nat → Int → Bool → Int → List Int → Option (List Int × Bool)
 | 0, _, _, _, _ => none
 | k + 1, x1, x14, x121000, x121001 => if x14 = true then (some (([] : List Int), false)) else ((crc_Word.f x121001).bind fun t126 => ((image_lay.f k (([80, 72] : List Int)) (([x121000, (x121001.length : Int), t126] : List Int))).bind fun t130 => ((image_seal.f k t130 x121001 x1).bind fun t133 => ((image_lay.f k t130 (([t133] : List Int))).bind fun t137 => (if t137.length + x121001.length < 140737488355328 then (some ((t137 ++ x121001), true)) else (none))))))
def image_Pack.f (k : Nat) (a0_0 : Int) (l0_1 : List Int) (a1 : Int) : Option (List Int × Bool) := (image_Right.f a0_0 l0_1).bind fun t121 => (if t121 = true then ((image_may.f a1).bind fun t122 => (image_Pack.j0 k a1 (!t122) a0_0 l0_1)) else (image_Pack.j0 k a1 true a0_0 l0_1))
theorem image_Pack.mono_l : ∀ k, (∀ y0 y1 y2 y3, LeO (image_Pack.j0 k y0 y1 y2 y3) (image_Pack.j0 (k + 1) y0 y1 y2 y3))
 | 0 => fun _ _ _ _ r h => by simp [image_Pack.j0] at h
 | k + 1 => by
  have ih0 := image_Pack.mono_l k
  ·intro y0 y1 y2 y3
   unfold image_Pack.j0
   repeat' first
   | (with_reducible exact ih0 _ _ _ _)
   | (with_reducible exact image_lay.mono _ _ _)
   | (with_reducible exact image_seal.mono _ _ _ _)
   | (with_reducible exact LeO.refl _)
   | (with_reducible exact LeO.none _)
   | (with_reducible refine LeO.ite ?_ ?_)
   | (with_reducible refine LeO.bind ?_ (fun _ => ?_))
   | exact ih0 _ _ _ _
   | exact image_lay.mono _ _ _
   | exact image_seal.mono _ _ _ _
   | exact LeO.none _
   | refine LeO.ite ?_ ?_
   | refine LeO.bind ?_ (fun _ => ?_)
theorem image_Pack.mono : ∀ a0 a1 a2 k, LeO (image_Pack.f k a0 a1 a2) (image_Pack.f (k + 1) a0 a1 a2) := by
 intro a0 a1 a2 k
 have ih0 := image_Pack.mono_l k
 unfold image_Pack.f
 repeat' first
   | (with_reducible exact ih0 _ _ _ _)
   | (with_reducible exact image_lay.mono _ _ _)
   | (with_reducible exact image_seal.mono _ _ _ _)
   | (with_reducible exact LeO.refl _)
   | (with_reducible exact LeO.none _)
   | (with_reducible refine LeO.ite ?_ ?_)
   | (with_reducible refine LeO.bind ?_ (fun _ => ?_))
   | exact ih0 _ _ _ _
   | exact image_lay.mono _ _ _
   | exact image_seal.mono _ _ _ _
   | exact LeO.none _
   | refine LeO.ite ?_ ?_
   | refine LeO.bind ?_ (fun _ => ?_)
def image_Pack.T3 : Bool × List (List Nat × List Nat) := (true, [([], []), ([0], [0]), ([], []), ([2], [2]), ([], []), ([4], [4]), ([5], [5]), ([], []), ([7], [7]), ([8], [8]), ([3, 6, 9], [3, 6, 9]), ([1, 10, 9], [1, 10]), ([11, 11, 0, 1, 2, 3, 4, 5, 6, 7, 8, 9, 10, 11], [11])])
def image_Pack.B3 : List Nat := [0, 1, 0, 4, 0, 16, 48, 0, 128, 384, 1020, 2047, 4095]
theorem image_Pack.tab3 : rtab .any (opsOf Try.f13 3) = image_Pack.T3 := by kernel_rfl
theorem image_Pack.bits3 : waitsOk image_Pack.T3.2 image_Pack.B3 = true := by kernel_rfl
def image_Pack.T4 : Bool × List (List Nat × List Nat) := (true, [([], []), ([], []), ([], []), ([2], [2]), ([], []), ([1, 3, 4], [1, 3, 4]), ([5], [5]), ([0, 6, 5], [0, 6]), ([], []), ([8], [8]), ([7, 9, 7], [7, 9]), ([10, 10, 0, 1, 2, 3, 4, 5, 6, 7, 8, 9, 10], [10]), ([11, 0, 1, 2, 3, 4, 5, 6, 7, 8, 9, 10, 11], [])])
def image_Pack.B4 : List Nat := [0, 0, 0, 4, 0, 30, 62, 127, 0, 256, 1023, 2047, 4095]
theorem image_Pack.tab4 : rtab .any (opsOf Try.f13 4) = image_Pack.T4 := by kernel_rfl
theorem image_Pack.bits4 : waitsOk image_Pack.T4.2 image_Pack.B4 = true := by kernel_rfl
set_option maxHeartbeats 8000000 in
set_option maxRecDepth 100000 in
theorem image_Pack.calls (k : Nat) (a0_0 : Int) (A0_1 : Option Addr) (c0_1 : Nat) (l0_1 : List Int) (a1 : Int) (r1 : List Int) (r2 : Bool) (w : World) (hr0_1 : Kd.C (Kd.int .u8) w A0_1 l0_1.length l0_1) (hc0_1 : l0_1.length ≤ c0_1) (h : image_Pack.f k a0_0 l0_1 a1 = some (r1, r2)) :
  Calls Try.prog 13 #[.agg #[.int .i64 a0_0, .slice A0_1 l0_1.length c0_1], .int .i64 a1] w fun e w' => ∃ v0_ : Value, e = .returned (.tuple #[v0_, .bool r2]) ∧ Kd.R (Kd.int .u8) 5 w' w.heap.size (fun _ => True) v0_ r1 ∧ Below w.heap.size w w' := by
 have hu24 := Try.underlying24
 have HR0_1 := Aside0.mk hr0_1
 have HC0_1 := Aside0.mk hc0_1
 clear hr0_1 hc0_1
 have HB := Aside0.mk (Below.refl w.heap.size w)
 have H : ((image_Right.f a0_0 l0_1).bind fun t121 => (if t121 = true then ((image_may.f a1).bind fun t122 => (image_Pack.j0 k a1 (!t122) a0_0 l0_1)) else (image_Pack.j0 k a1 true a0_0 l0_1))) = some (r1, r2) := h
 clear h
 have HC3 := Aside0.mk H
 clear H
 go_enter Try.func13, Try.ntmps13
 go_upto_region 1 with (first | ((with_reducible refine gate_dst (N := 2) rfl ?_); refine box_event ?hg (N := 2) ?hd (cs := #[.int .i64 a0_0, .slice A0_1 l0_1.length c0_1]) (t := 24) ?hr ?_; (case hd => rfl); (case hg => rfl); (case hr => first | (go_simp; done) | (go_simp; rfl)); intro gb120 hg w4 hbox hb; have n0_ := Aside0.mk (below_step (by repeat (first | (with_reducible first | exact HB.out | apply below_alloc | apply pw_below_drewN | apply below_drew1) | exact HB.out)) hb); have n1_ := Aside0.mk (hbox); have n2_ := Aside0.mk ((by rw [hg]; exact (below_size (by repeat (first | (with_reducible first | exact HB.out | apply below_alloc | apply pw_below_drewN | apply below_drew1) | exact HB.out))) : w.heap.size ≤ gb120)); have n3_ := Aside0.mk ((by rw [hg]; exact (below_size (by repeat (first | (with_reducible first | exact HB.out | apply below_alloc | apply pw_below_drewN | apply below_drew1) | exact HB.out))) : w.heap.size ≤ gb120)); clear HB; have HB := n0_; have BK120 := n1_; have GW120 := n2_; have GE120 := n3_; clear n0_ n1_ n2_ n3_; clear hb hbox hg))
 (try simp only [Act.put, List.setIfInBounds_toArray, List.set_cons_zero, List.set_cons_succ])
 go_cut [14] (fun v14 wc => ∃ (kq : Nat) (x14_2 : Bool), v14 = .bool x14_2 ∧ Aside0 (image_Pack.j0 kq a1 x14_2 a0_0 l0_1 = some (r1, r2)) ∧ Aside0 (kq ≤ k) ∧ Aside0 (wc.heap[gb120]? = some (.cells #[.int .i64 a0_0, (.slice A0_1 l0_1.length c0_1)] 24 (0, 0))) ∧ Aside0 (Below w.heap.size w wc))
 case first =>
  have H := HC3.out
  clear HC3
  replace H := Option.bind_eq_some_iff.mp H
  obtain ⟨t121, A50, H⟩ := H
  replace H : (if t121 = true then ((image_may.f a1).bind fun t122 => (image_Pack.j0 k a1 (!t122) a0_0 l0_1)) else (image_Pack.j0 k a1 true a0_0 l0_1)) = some (r1, r2) := H
  have A5 := Aside0.mk A50
  clear A50
  by_cases c6 : t121 = true
  ·subst c6
   have H1 : ((image_may.f a1).bind fun t122 => (image_Pack.j0 k a1 (!t122) a0_0 l0_1)) = some (r1, r2) := by rw [if_pos rfl] at H; exact H
   clear H
   have H := H1
   clear H1
   replace H := Option.bind_eq_some_iff.mp H
   obtain ⟨t122, A70, H⟩ := H
   replace H : (image_Pack.j0 k a1 (!t122) a0_0 l0_1) = some (r1, r2) := H
   have A7 := Aside0.mk A70
   clear A70
   have H' := Aside0.mk H
   clear H
   have hcz8_0 : w4.cell? ⟨gb120, 0, none⟩ = some (.int .i64 a0_0) := (blk_cell BK120.out 0).trans rfl
   have hcz8_1 : w4.cell? ⟨gb120, 1, none⟩ = some (.slice A0_1 l0_1.length c0_1) := (blk_cell BK120.out 1).trans rfl
   have hfz8_0 := blk_frozen BK120.out 0
   have hfz8_1 := blk_frozen BK120.out 1
   go_wp2_with (first | ((with_reducible refine gate_store (t := 24) (p := 2) rfl ?_); refine HW.store_box rfl rfl 24 _ _ rfl rfl rfl BK120.out rfl (by kernel_rfl) (by intro q hq; simp only [List.mem_cons, List.not_mem_nil, or_false] at hq; rcases hq with rfl | rfl <;> rfl) ?_; intro w1_ hw1_; simp only [List.toList_toArray, World.setCells, Nat.zero_add, Nat.reduceAdd] at hw1_; subst hw1_) | ((with_reducible refine gate_callee (f := 17) rfl ?_); refine goesL_ (some 8) rfl rfl Try.func17 (by kernel_rfl) rfl #[.agg #[.int .i64 a0_0, .slice A0_1 l0_1.length c0_1]] rfl (by (try simp only [List.map_toArray, List.map_cons, List.map_nil]); first | done | rfl | (simp only [List.length_drop, List.length_take]; rfl)) ?_; (with_reducible refine (image_Right.calls a0_0 _ _ l0_1 true _ ?side1 ?side2 A5.out).mono ?_); (case side1 => repeat (first | exact (Kd.C_below HR0_1.out HB.out) | (with_reducible refine Kd.C_alloc ?_ _) | (with_reducible refine Kd.C_drewN ?_ _) | (with_reducible refine Kd.C_drew ?_))); (case side2 => exact HC0_1.out); rintro e w9 ⟨rfl, hb⟩; refine ⟨_, rfl, ?_⟩; have n0_ := Aside0.mk (blk_below (g := gb120) (o := .cells #[.int .i64 a0_0, .slice A0_1 l0_1.length c0_1] 24 (0, 0)) (by (with_reducible repeat (first | refine blk_drewN ?_ _ | refine blk_drew ?_ | refine blk_alloc ?_ _)); exact BK120.out) hb); have n1_ := Aside0.mk (below_step (by repeat (first | (with_reducible first | exact HB.out | apply below_alloc | apply pw_below_drewN | apply below_drew1 | refine below_set ?_ GE120.out) | exact HB.out)) hb); clear BK120; clear HB; have BK120 := n0_; have HB := n1_; clear n0_ n1_; (try clear hb); (try clear hb2); (try clear hk); (try clear hi)) | (go_at_call 27; (with_reducible refine (image_may.calls a1 t122 _ A7.out).mono ?_); rintro e w' ⟨rfl, ⟨nd, rfl⟩⟩))
   go_meet
   case rel => exact ⟨_, (!t122), (by first | rfl | (simp; done) | (simp [*]; done)), H', ⟨by first | omega | exact Nat.le_refl _⟩, ⟨by (with_reducible repeat (first | refine blk_drewN ?_ _ | refine blk_drew ?_ | refine blk_alloc ?_ _)); exact BK120.out⟩, ⟨by repeat (first | (with_reducible first | exact HB.out | apply below_alloc | apply pw_below_drewN | apply below_drew1 | refine below_set ?_ GE120.out) | exact HB.out)⟩⟩
  ·replace c6 := Bool.eq_false_iff.mpr c6
   subst c6
   have H1 : (image_Pack.j0 k a1 true a0_0 l0_1) = some (r1, r2) := by rw [if_neg (show ¬ (false = true) by decide)] at H; exact H
   clear H
   have H := H1
   clear H1
   have H' := Aside0.mk H
   clear H
   have hcz10_0 : w4.cell? ⟨gb120, 0, none⟩ = some (.int .i64 a0_0) := (blk_cell BK120.out 0).trans rfl
   have hcz10_1 : w4.cell? ⟨gb120, 1, none⟩ = some (.slice A0_1 l0_1.length c0_1) := (blk_cell BK120.out 1).trans rfl
   have hfz10_0 := blk_frozen BK120.out 0
   have hfz10_1 := blk_frozen BK120.out 1
   go_wp2_with (first | ((with_reducible refine gate_store (t := 24) (p := 2) rfl ?_); refine HW.store_box rfl rfl 24 _ _ rfl rfl rfl BK120.out rfl (by kernel_rfl) (by intro q hq; simp only [List.mem_cons, List.not_mem_nil, or_false] at hq; rcases hq with rfl | rfl <;> rfl) ?_; intro w1_ hw1_; simp only [List.toList_toArray, World.setCells, Nat.zero_add, Nat.reduceAdd] at hw1_; subst hw1_) | ((with_reducible refine gate_callee (f := 17) rfl ?_); refine goesL_ (some 8) rfl rfl Try.func17 (by kernel_rfl) rfl #[.agg #[.int .i64 a0_0, .slice A0_1 l0_1.length c0_1]] rfl (by (try simp only [List.map_toArray, List.map_cons, List.map_nil]); first | done | rfl | (simp only [List.length_drop, List.length_take]; rfl)) ?_; (with_reducible refine (image_Right.calls a0_0 _ _ l0_1 false _ ?side1 ?side2 A5.out).mono ?_); (case side1 => repeat (first | exact (Kd.C_below HR0_1.out HB.out) | (with_reducible refine Kd.C_alloc ?_ _) | (with_reducible refine Kd.C_drewN ?_ _) | (with_reducible refine Kd.C_drew ?_))); (case side2 => exact HC0_1.out); rintro e w11 ⟨rfl, hb⟩; refine ⟨_, rfl, ?_⟩; have n0_ := Aside0.mk (blk_below (g := gb120) (o := .cells #[.int .i64 a0_0, .slice A0_1 l0_1.length c0_1] 24 (0, 0)) (by (with_reducible repeat (first | refine blk_drewN ?_ _ | refine blk_drew ?_ | refine blk_alloc ?_ _)); exact BK120.out) hb); have n1_ := Aside0.mk (below_step (by repeat (first | (with_reducible first | exact HB.out | apply below_alloc | apply pw_below_drewN | apply below_drew1 | refine below_set ?_ GE120.out) | exact HB.out)) hb); clear BK120; clear HB; have BK120 := n0_; have HB := n1_; clear n0_ n1_; (try clear hb); (try clear hb2); (try clear hk); (try clear hi)))
   go_meet
   case rel => exact ⟨_, (true), (by first | rfl | (simp; done) | (simp [*]; done)), H', ⟨by first | omega | exact Nat.le_refl _⟩, ⟨by (with_reducible repeat (first | refine blk_drewN ?_ _ | refine blk_drew ?_ | refine blk_alloc ?_ _)); exact BK120.out⟩, ⟨by repeat (first | (with_reducible first | exact HB.out | apply below_alloc | apply pw_below_drewN | apply below_drew1 | refine below_set ?_ GE120.out) | exact HB.out)⟩⟩
 case rest =>
  clear HC3
  try clear c1
  try clear p2
  try clear c6
  try clear hcz10_0
  try clear hcz10_1
  try clear hcz8_0
  try clear hcz8_1
  try clear hfz10_0
  try clear hfz10_1
  try clear hfz8_0
  try clear hfz8_1
  obtain ⟨kq, x14_2, rfl, HA, HJ2, BK120, HB⟩ := hcut
  cases kq with
  | zero => exact absurd HA.out (by simp [image_Pack.j0])
  | succ kj2 =>
   have H := HA.out
   clear HA
   simp only [image_Pack.j0] at H
   by_cases c12 : x14_2 = true
   ·subst c12
    have H1 : (some (([] : List Int), false)) = some (r1, r2) := by rw [if_pos rfl] at H; exact H
    clear H
    have H := H1
    clear H1
    simp only [Option.some.injEq, Prod.mk.injEq] at H
    obtain ⟨rfl, rfl⟩ := H
    go_wp2
    go_ret2
    exact ⟨_, by first | rfl | (simp [errW_none, errW_some] <;> rfl) | (simp [*, errW_none, errW_some] <;> rfl), by first | exact Kd.R_nil _ _ _ _ _ | exact Kd.N_nil _ _ _ _ _ | exact Kd.V_nil _ _ _ _ _ | exact Kd.Q_nil _ _ _ _ _ | exact Kd.S_nil _ _ _ _ _, by repeat (first | (with_reducible first | exact HB.out | apply below_alloc | apply pw_below_drewN | apply below_drew1 | refine below_set ?_ GE120.out) | exact HB.out)⟩
   ·replace c12 := Bool.eq_false_iff.mpr c12
    subst c12
    have H1 : ((crc_Word.f l0_1).bind fun t126 => ((image_lay.f kj2 (([80, 72] : List Int)) (([a0_0, (l0_1.length : Int), t126] : List Int))).bind fun t130 => ((image_seal.f kj2 t130 l0_1 a1).bind fun t133 => ((image_lay.f kj2 t130 (([t133] : List Int))).bind fun t137 => (if t137.length + l0_1.length < 140737488355328 then (some ((t137 ++ l0_1), true)) else (none)))))) = some (r1, r2) := by rw [if_neg (show ¬ (false = true) by decide)] at H; exact H
    clear H
    have H := H1
    clear H1
    obtain ⟨y123, hy123⟩ : ∃ y_ : List Int, y_ = (([80, 72] : List Int)) := ⟨_, rfl⟩
    replace H : ((crc_Word.f l0_1).bind fun t126 => ((image_lay.f kj2 y123 (([a0_0, (l0_1.length : Int), t126] : List Int))).bind fun t130 => ((image_seal.f kj2 t130 l0_1 a1).bind fun t133 => ((image_lay.f kj2 t130 (([t133] : List Int))).bind fun t137 => (if t137.length + l0_1.length < 140737488355328 then (some ((t137 ++ l0_1), true)) else (none)))))) = some (r1, r2) := by first | (rw [hy123]; with_reducible exact H) | (have H2_ := (Option.bind_some _ _).symm.trans H; rw [hy123]; with_reducible exact H2_) | (have H2_ := (Option.bind_some _ _).symm.trans H; with_reducible exact H2_) | with_reducible exact H | (rw [hy123]; exact H) | exact H
    have Ny123 := Aside0.mk hy123
    clear hy123
    replace H := Option.bind_eq_some_iff.mp H
    obtain ⟨t126, A130, H⟩ := H
    replace H : ((image_lay.f kj2 y123 (([a0_0, (l0_1.length : Int), t126] : List Int))).bind fun t130 => ((image_seal.f kj2 t130 l0_1 a1).bind fun t133 => ((image_lay.f kj2 t130 (([t133] : List Int))).bind fun t137 => (if t137.length + l0_1.length < 140737488355328 then (some ((t137 ++ l0_1), true)) else (none))))) = some (r1, r2) := H
    have A13 := Aside0.mk A130
    clear A130
    obtain ⟨y127, hy127⟩ : ∃ y_ : List Int, y_ = (([a0_0, (l0_1.length : Int), t126] : List Int)) := ⟨_, rfl⟩
    replace H : ((image_lay.f kj2 y123 y127).bind fun t130 => ((image_seal.f kj2 t130 l0_1 a1).bind fun t133 => ((image_lay.f kj2 t130 (([t133] : List Int))).bind fun t137 => (if t137.length + l0_1.length < 140737488355328 then (some ((t137 ++ l0_1), true)) else (none))))) = some (r1, r2) := by first | (rw [hy127]; with_reducible exact H) | (have H2_ := (Option.bind_some _ _).symm.trans H; rw [hy127]; with_reducible exact H2_) | (have H2_ := (Option.bind_some _ _).symm.trans H; with_reducible exact H2_) | with_reducible exact H | (rw [hy127]; exact H) | exact H
    have Ny127 := Aside0.mk hy127
    clear hy127
    replace H := Option.bind_eq_some_iff.mp H
    obtain ⟨t130, A140, H⟩ := H
    replace H : ((image_seal.f kj2 t130 l0_1 a1).bind fun t133 => ((image_lay.f kj2 t130 (([t133] : List Int))).bind fun t137 => (if t137.length + l0_1.length < 140737488355328 then (some ((t137 ++ l0_1), true)) else (none)))) = some (r1, r2) := H
    have A14 := Aside0.mk A140
    clear A140
    replace H := Option.bind_eq_some_iff.mp H
    obtain ⟨t133, A150, H⟩ := H
    replace H : ((image_lay.f kj2 t130 (([t133] : List Int))).bind fun t137 => (if t137.length + l0_1.length < 140737488355328 then (some ((t137 ++ l0_1), true)) else (none))) = some (r1, r2) := H
    have A15 := Aside0.mk A150
    clear A150
    obtain ⟨y134, hy134⟩ : ∃ y_ : List Int, y_ = (([t133] : List Int)) := ⟨_, rfl⟩
    replace H : ((image_lay.f kj2 t130 y134).bind fun t137 => (if t137.length + l0_1.length < 140737488355328 then (some ((t137 ++ l0_1), true)) else (none))) = some (r1, r2) := by first | (rw [hy134]; with_reducible exact H) | (have H2_ := (Option.bind_some _ _).symm.trans H; rw [hy134]; with_reducible exact H2_) | (have H2_ := (Option.bind_some _ _).symm.trans H; with_reducible exact H2_) | with_reducible exact H | (rw [hy134]; exact H) | exact H
    have Ny134 := Aside0.mk hy134
    clear hy134
    replace H := Option.bind_eq_some_iff.mp H
    obtain ⟨t137, A160, H⟩ := H
    replace H : (if t137.length + l0_1.length < 140737488355328 then (some ((t137 ++ l0_1), true)) else (none)) = some (r1, r2) := H
    have A16 := Aside0.mk A160
    clear A160
    by_cases c17 : t137.length + l0_1.length < 140737488355328
    ·rw [if_pos c17] at H
     have LMc17 := Aside0.mk c17
     clear c17
     obtain ⟨y140, hy140⟩ : ∃ y_ : List Int, y_ = (t137 ++ l0_1) := ⟨_, rfl⟩
     replace H : (some (y140, true)) = some (r1, r2) := by first | (rw [hy140]; with_reducible exact H) | (have H2_ := (Option.bind_some _ _).symm.trans H; rw [hy140]; with_reducible exact H2_) | (have H2_ := (Option.bind_some _ _).symm.trans H; with_reducible exact H2_) | with_reducible exact H | (rw [hy140]; exact H) | exact H
     have Ny140 := Aside0.mk hy140
     clear hy140
     simp only [Option.some.injEq, Prod.mk.injEq] at H
     obtain ⟨rfl, rfl⟩ := H
     try go_wp2
     have n0_ := Aside0.mk (blk_drew BK120.out)
     have n1_ := Aside0.mk (below_drew1 HB.out)
     clear BK120
     clear HB
     have BK120 := n0_
     have HB := n1_
     clear n0_ n1_
     refine start_ (n := 13) (S := fun w' => w'.cell? ⟨gb120, 0, none⟩ = some (.int .i64 a0_0) ∧ w'.cell? ⟨gb120, 1, none⟩ = some (.slice A0_1 l0_1.length c0_1)) (ds := []) #[false, false, false, false, false, false, false, false, false, false, false, false, false] (by kernel_rfl) rfl rfl ⟨(blk_cell BK120.out 0).trans rfl, (blk_cell BK120.out 1).trans rfl⟩ (fun hHeld => ?_); refine with_tabW image_Pack.tab3 image_Pack.bits3 (fun HT_ HW_ => ?_)
     generalize wc.drew = w18 at BK120 HB hHeld ⊢
     refine pure_ (i := 2) (N := some 17) (v := ?_) (a' := ?_) #[false, false, true, false, false, false, false, false, false, false, false, false, false] rfl rfl (any_of HT_.out (by kernel_rfl)) (fun _ _ _ h => h) (Or.inl ⟨by rfl, ?_⟩) ?_ ?_
     rotate_left
     ·intro w'
      go_simp
      with_reducible rfl
     rotate_left
     ·simp only [Act.put, HW.LA, HW.LZ, HW.LS, i64_w, i32_w]
      rfl
     refine pure_ (i := 4) (N := some 19) (v := ?_) (a' := ?_) #[false, false, true, false, true, false, false, false, false, false, false, false, false] rfl rfl (any_of HT_.out (by kernel_rfl)) (fun _ _ _ h => h) (Or.inl ⟨by rfl, ?_⟩) ?_ ?_
     rotate_left
     ·intro w'
      go_simp
      with_reducible rfl
     rotate_left
     ·simp only [Act.put, HW.LA, HW.LZ, HW.LS, i64_w, i32_w]
      rfl
     refine pure_ (i := 7) (N := some 22) (v := ?_) (a' := ?_) #[false, false, true, false, true, false, false, true, false, false, false, false, false] rfl rfl (any_of HT_.out (by kernel_rfl)) (fun _ _ _ h => h) (Or.inl ⟨by rfl, ?_⟩) ?_ ?_
     rotate_left
     ·intro w'
      go_simp
      with_reducible rfl
     rotate_left
     ·simp only [Act.put, HW.LA, HW.LZ, HW.LS, i64_w, i32_w]
      rfl
     refine take_ (i := 3) (N := some 18) (v := ?_) (a' := ?_) #[false, false, true, true, true, false, false, true, false, false, false, false, false] rfl rfl (take_ofW HT_.out HW_.out (by kernel_rfl)) (fun _ _ _ h => h) (Or.inl ⟨by rfl, ?_⟩) hHeld ?_ ?_
     rotate_left
     ·rintro w' ⟨s0, s1⟩
      go_simp
      with_reducible rfl
     rotate_left
     ·simp only [Act.put, HW.LA, HW.LZ, HW.LS, i64_w, i32_w]
      rfl
     refine take_ (i := 5) (N := some 20) (v := ?_) (a' := ?_) #[false, false, true, true, true, true, false, true, false, false, false, false, false] rfl rfl (take_ofW HT_.out HW_.out (by kernel_rfl)) (fun _ _ _ h => h) (Or.inl ⟨by rfl, ?_⟩) hHeld ?_ ?_
     rotate_left
     ·rintro w' ⟨s0, s1⟩
      go_simp
      with_reducible rfl
     rotate_left
     ·simp only [Act.put, HW.LA, HW.LZ, HW.LS, i64_w, i32_w]
      rfl
     refine pure_ (i := 6) (N := some 21) (v := ?_) (a' := ?_) #[false, false, true, true, true, true, true, true, false, false, false, false, false] rfl rfl (any_of HT_.out (by kernel_rfl)) (fun _ _ _ h => h) (Or.inl ⟨by rfl, ?_⟩) ?_ ?_
     rotate_left
     ·intro w'
      go_simp
      with_reducible rfl
     rotate_left
     ·simp only [Act.put, HW.LA, HW.LZ, HW.LS, i64_w, i32_w]
      rfl
     refine take_ (i := 8) (N := some 23) (v := ?_) (a' := ?_) #[false, false, true, true, true, true, true, true, true, false, false, false, false] rfl rfl (take_ofW HT_.out HW_.out (by kernel_rfl)) (fun _ _ _ h => h) (Or.inl ⟨by rfl, ?_⟩) hHeld ?_ ?_
     rotate_left
     ·rintro w' ⟨s0, s1⟩
      go_simp
      with_reducible rfl
     rotate_left
     ·simp only [Act.put, HW.LA, HW.LZ, HW.LS, i64_w, i32_w]
      rfl
     refine join_ (σ := Nat × Value) 2 #[true, true, true, true, true, true, true, true, true, true, true, false, false] (fun s_ => [(15, .slice (some ⟨s_.1, 0, none⟩) 2 2), (24, .int .i64 t126), (25, s_.2), (16, .slice (some ⟨s_.1, 0, none⟩) 2 2)]) (fun s_ w' => (w'.cell? ⟨gb120, 0, none⟩ = some (.int .i64 a0_0) ∧ w'.cell? ⟨gb120, 1, none⟩ = some (.slice A0_1 l0_1.length c0_1)) ∧ (w'.heap[s_.1]? = some (.cells #[Value.int .u8 80, Value.int .u8 72] 5 (2, 3))) ∧ (Kd.R (Kd.int .i64) 3 w' w.heap.size (fun _ => True) s_.2 y127) ∧ (w'.heap[gb120]? = some (.cells #[.int .i64 a0_0, .slice A0_1 l0_1.length c0_1] 24 (0, 0))) ∧ (Below w.heap.size w w')) ?_ ?_
     rotate_left
     ·intro hCont
      refine two_ (i := 0) (j := 9) (Ni := some 15) (Nj := some 24) #[true, false, true, true, true, true, true, true, true, false, false, false, false] #[false, false, true, true, true, true, true, true, true, true, false, false, false] rfl rfl rfl rfl (two_of HT_.out (by kernel_rfl)) (by decide) (by decide) (fun K hK => ?_) (fun K hK => ?_)
      ·skip
       refine HW.lit_step (w0 := _) _ ?hw (n := 2) (cs := #[Value.int .u8 80, Value.int .u8 72]) (e := 5) ?hr (Below.refl _ _) (Nat.le_refl _) ?_; (case hw => rfl); (case hr => first | (go_simp; done) | (go_simp; rfl))
       intro gm w21_ hgm hbm hb hg_
       have GM := Aside0.mk (show w.heap.size ≤ gm from by rw [← hgm]; exact below_size HB.out)
       have NM := Aside0.mk (show some gb120 ≠ some gm from fun h_ => by injection h_ with h_; have := blk_lt BK120.out; omega)
       have BM := Aside0.mk hbm
       have BK' := Aside0.mk (blk_below BK120.out hb)
       have HB' := Aside0.mk (below_step HB.out hb)
       clear BK120 HB hgm hbm hb hg_
       have BK120 := BK'
       have HB := HB'
       clear BK' HB'
       refine hK.out _ _ ⟨(blk_cell BK120.out 0).trans rfl, (blk_cell BK120.out 1).trans rfl⟩ (fun hHeld => ?_)
       clear hK K
       refine norm_ (a' := ?_) ?_ ?_
       rotate_left
       ·show Act.put _ (some 15) _ = _
        simp only [Act.put, HW.LA, HW.LZ, HW.LS, i64_w, i32_w]
        rfl
       refine two_ (i := 1) (j := 9) (Ni := some 16) (Nj := some 24) #[true, true, true, true, true, true, true, true, true, false, false, false, false] #[true, false, true, true, true, true, true, true, true, true, false, false, false] rfl rfl rfl rfl (two_of HT_.out (by kernel_rfl)) (by decide) (by decide) (fun K hK => ?_) (fun K hK => ?_)
       ·skip
        refine HW.mark_step (w0 := w) w.heap.size ?hw 22 5 (.tmp 15) rfl Try.underlying22 Try.underlying5 (g := gm) (n := 2) (c := 2) (cs := #[Value.int .u8 80, Value.int .u8 72]) rfl BM.out HB.out (below_size HB.out) GM.out ?_; (case hw => rfl)
        intro w22_ hbm hb hg
        have BM' := Aside0.mk hbm
        have BK' := Aside0.mk (blk_grown BK120.out hg NM.out)
        have HB' := Aside0.mk hb
        clear BK120 HB BM hbm hb hg
        have BM := BM'
        clear BM'
        have BK120 := BK'
        have HB := HB'
        clear BK' HB'
        refine hK.out _ _ ⟨(blk_cell BK120.out 0).trans rfl, (blk_cell BK120.out 1).trans rfl⟩ (fun hHeld => ?_)
        clear hK K
        refine norm_ (a' := ?_) ?_ ?_
        rotate_left
        ·show Act.put _ (some 16) _ = _
         simp only [Act.put, HW.LA, HW.LZ, HW.LS, i64_w, i32_w]
         rfl
        refine one_ (i := 9) (N := some 24) #[true, true, true, true, true, true, true, true, true, true, false, false, false] rfl rfl (one_of HT_.out (by kernel_rfl)) (by decide) (fun K hK => ?_)
        refine goes_ Try.func29 (by kernel_rfl) rfl #[.slice A0_1 l0_1.length c0_1] (by rfl) rfl rfl (by (try simp only [List.map_toArray, List.map_cons, List.map_nil]); first | done | rfl) ?_
        with_reducible refine (crc_Word.calls _ _ l0_1 t126 _ (Kd.C_below HR0_1.out HB.out) HC0_1.out A13.out).mono ?_
        rintro e w23_ ⟨rfl, hb⟩
        refine ⟨_, rfl, ?_⟩
        have BM' := Aside0.mk (blk_below BM.out hb)
        clear BM
        have BM := BM'
        clear BM'
        have BK' := Aside0.mk (blk_below BK120.out hb)
        have HB' := Aside0.mk (below_step HB.out hb)
        clear BK120 HB hb
        have BK120 := BK'
        have HB := HB'
        clear BK' HB'
        refine hK.out _ _ ⟨(blk_cell BK120.out 0).trans rfl, (blk_cell BK120.out 1).trans rfl⟩ (fun hHeld => ?_)
        clear hK K
        refine norm_ (a' := ?_) ?_ ?_
        rotate_left
        ·show Act.put _ (some 24) _ = _
         simp only [Act.put, HW.LA, HW.LZ, HW.LS, i64_w, i32_w]
         rfl
        refine one_ (i := 10) (N := some 25) #[true, true, true, true, true, true, true, true, true, true, true, false, false] rfl rfl (one_of HT_.out (by kernel_rfl)) (by decide) (fun K hK => ?_)
        refine Kd.R_lit_step (Kd.int .i64) _ 3 ?hg (N := 25) ?hd (xs := ([a0_0, (l0_1.length : Int), t126] : List Int)) (inner := [.int .i64 a0_0, .int .i64 (l0_1.length : Int), .int .i64 t126]) (ok := fun _ => True) (okp := fun _ => True) ?hr ?hp (fun _ hk => hk) trivial (Below.refl _ _) (Nat.le_refl _) (by simp) ?_; (case hd => rfl); (case hg => rfl); (case hr => first | (go_simp; done) | (go_simp; rfl)); (case hp => exact (Reps.one (show Kd.M (Kd.int .i64) _ _ _ a0_0 [.int .i64 a0_0] from rfl) (Reps.one (show Kd.M (Kd.int .i64) _ _ _ (l0_1.length : Int) [.int .i64 (l0_1.length : Int)] from rfl) (Reps.one (show Kd.M (Kd.int .i64) _ _ _ t126 [.int .i64 t126] from rfl) (Reps.none _ _)))))
        intro v128 w24_ ho23 hb hg_ hnew_
        rw [← Ny127.out] at ho23
        have HO129 := Aside0.mk (Kd.R_lower ho23 (below_size HB.out))
        have BM' := Aside0.mk (blk_below BM.out hb)
        clear BM
        have BM := BM'
        clear BM'
        have BK' := Aside0.mk (blk_below BK120.out hb)
        have HB' := Aside0.mk (below_step HB.out hb)
        clear BK120 HB hb ho23 hg_ hnew_
        have BK120 := BK'
        have HB := HB'
        clear BK' HB'
        refine hK.out _ _ ⟨(blk_cell BK120.out 0).trans rfl, (blk_cell BK120.out 1).trans rfl⟩ (fun hHeld => ?_)
        clear hK K
        refine norm_ (a' := ?_) ?_ ?_
        rotate_left
        ·show Act.put _ (some 25) _ = _
         simp only [Act.put, HW.LA, HW.LZ, HW.LS, i64_w, i32_w]
         rfl
        exact norm_ (by simp only [putAll, Act.put, List.setIfInBounds_toArray, List.set_cons_zero, List.set_cons_succ]) (hCont (gm, v128) _ ⟨hHeld, BM.out, HO129.out, BK120.out, HB.out⟩)
       ·skip
        refine goes_ Try.func29 (by kernel_rfl) rfl #[.slice A0_1 l0_1.length c0_1] (by rfl) rfl rfl (by (try simp only [List.map_toArray, List.map_cons, List.map_nil]); first | done | rfl) ?_
        with_reducible refine (crc_Word.calls _ _ l0_1 t126 _ (Kd.C_below HR0_1.out HB.out) HC0_1.out A13.out).mono ?_
        rintro e w25_ ⟨rfl, hb⟩
        refine ⟨_, rfl, ?_⟩
        have BM' := Aside0.mk (blk_below BM.out hb)
        clear BM
        have BM := BM'
        clear BM'
        have BK' := Aside0.mk (blk_below BK120.out hb)
        have HB' := Aside0.mk (below_step HB.out hb)
        clear BK120 HB hb
        have BK120 := BK'
        have HB := HB'
        clear BK' HB'
        refine hK.out _ _ ⟨(blk_cell BK120.out 0).trans rfl, (blk_cell BK120.out 1).trans rfl⟩ (fun hHeld => ?_)
        clear hK K
        refine norm_ (a' := ?_) ?_ ?_
        rotate_left
        ·show Act.put _ (some 24) _ = _
         simp only [Act.put, HW.LA, HW.LZ, HW.LS, i64_w, i32_w]
         rfl
        refine two_ (i := 1) (j := 10) (Ni := some 16) (Nj := some 25) #[true, true, true, true, true, true, true, true, true, true, false, false, false] #[true, false, true, true, true, true, true, true, true, true, true, false, false] rfl rfl rfl rfl (two_of HT_.out (by kernel_rfl)) (by decide) (by decide) (fun K hK => ?_) (fun K hK => ?_)
        ·skip
         refine HW.mark_step (w0 := w) w.heap.size ?hw 22 5 (.tmp 15) rfl Try.underlying22 Try.underlying5 (g := gm) (n := 2) (c := 2) (cs := #[Value.int .u8 80, Value.int .u8 72]) rfl BM.out HB.out (below_size HB.out) GM.out ?_; (case hw => rfl)
         intro w26_ hbm hb hg
         have BM' := Aside0.mk hbm
         have BK' := Aside0.mk (blk_grown BK120.out hg NM.out)
         have HB' := Aside0.mk hb
         clear BK120 HB BM hbm hb hg
         have BM := BM'
         clear BM'
         have BK120 := BK'
         have HB := HB'
         clear BK' HB'
         refine hK.out _ _ ⟨(blk_cell BK120.out 0).trans rfl, (blk_cell BK120.out 1).trans rfl⟩ (fun hHeld => ?_)
         clear hK K
         refine norm_ (a' := ?_) ?_ ?_
         rotate_left
         ·show Act.put _ (some 16) _ = _
          simp only [Act.put, HW.LA, HW.LZ, HW.LS, i64_w, i32_w]
          rfl
         refine one_ (i := 10) (N := some 25) #[true, true, true, true, true, true, true, true, true, true, true, false, false] rfl rfl (one_of HT_.out (by kernel_rfl)) (by decide) (fun K hK => ?_)
         refine Kd.R_lit_step (Kd.int .i64) _ 3 ?hg (N := 25) ?hd (xs := ([a0_0, (l0_1.length : Int), t126] : List Int)) (inner := [.int .i64 a0_0, .int .i64 (l0_1.length : Int), .int .i64 t126]) (ok := fun _ => True) (okp := fun _ => True) ?hr ?hp (fun _ hk => hk) trivial (Below.refl _ _) (Nat.le_refl _) (by simp) ?_; (case hd => rfl); (case hg => rfl); (case hr => first | (go_simp; done) | (go_simp; rfl)); (case hp => exact (Reps.one (show Kd.M (Kd.int .i64) _ _ _ a0_0 [.int .i64 a0_0] from rfl) (Reps.one (show Kd.M (Kd.int .i64) _ _ _ (l0_1.length : Int) [.int .i64 (l0_1.length : Int)] from rfl) (Reps.one (show Kd.M (Kd.int .i64) _ _ _ t126 [.int .i64 t126] from rfl) (Reps.none _ _)))))
         intro v128 w27_ ho23 hb hg_ hnew_
         rw [← Ny127.out] at ho23
         have HO129 := Aside0.mk (Kd.R_lower ho23 (below_size HB.out))
         have BM' := Aside0.mk (blk_below BM.out hb)
         clear BM
         have BM := BM'
         clear BM'
         have BK' := Aside0.mk (blk_below BK120.out hb)
         have HB' := Aside0.mk (below_step HB.out hb)
         clear BK120 HB hb ho23 hg_ hnew_
         have BK120 := BK'
         have HB := HB'
         clear BK' HB'
         refine hK.out _ _ ⟨(blk_cell BK120.out 0).trans rfl, (blk_cell BK120.out 1).trans rfl⟩ (fun hHeld => ?_)
         clear hK K
         refine norm_ (a' := ?_) ?_ ?_
         rotate_left
         ·show Act.put _ (some 25) _ = _
          simp only [Act.put, HW.LA, HW.LZ, HW.LS, i64_w, i32_w]
          rfl
         exact norm_ (by simp only [putAll, Act.put, List.setIfInBounds_toArray, List.set_cons_zero, List.set_cons_succ]) (hCont (gm, v128) _ ⟨hHeld, BM.out, HO129.out, BK120.out, HB.out⟩)
        ·skip
         refine Kd.R_lit_step (Kd.int .i64) _ 3 ?hg (N := 25) ?hd (xs := ([a0_0, (l0_1.length : Int), t126] : List Int)) (inner := [.int .i64 a0_0, .int .i64 (l0_1.length : Int), .int .i64 t126]) (ok := fun _ => True) (okp := fun _ => True) ?hr ?hp (fun _ hk => hk) trivial (Below.refl _ _) (Nat.le_refl _) (by simp) ?_; (case hd => rfl); (case hg => rfl); (case hr => first | (go_simp; done) | (go_simp; rfl)); (case hp => exact (Reps.one (show Kd.M (Kd.int .i64) _ _ _ a0_0 [.int .i64 a0_0] from rfl) (Reps.one (show Kd.M (Kd.int .i64) _ _ _ (l0_1.length : Int) [.int .i64 (l0_1.length : Int)] from rfl) (Reps.one (show Kd.M (Kd.int .i64) _ _ _ t126 [.int .i64 t126] from rfl) (Reps.none _ _)))))
         intro v128 w28_ ho23 hb hg_ hnew_
         rw [← Ny127.out] at ho23
         have HO129 := Aside0.mk (Kd.R_lower ho23 (below_size HB.out))
         have BM' := Aside0.mk (blk_below BM.out hb)
         clear BM
         have BM := BM'
         clear BM'
         have BK' := Aside0.mk (blk_below BK120.out hb)
         have HB' := Aside0.mk (below_step HB.out hb)
         clear BK120 HB hb ho23 hg_ hnew_
         have BK120 := BK'
         have HB := HB'
         clear BK' HB'
         refine hK.out _ _ ⟨(blk_cell BK120.out 0).trans rfl, (blk_cell BK120.out 1).trans rfl⟩ (fun hHeld => ?_)
         clear hK K
         refine norm_ (a' := ?_) ?_ ?_
         rotate_left
         ·show Act.put _ (some 25) _ = _
          simp only [Act.put, HW.LA, HW.LZ, HW.LS, i64_w, i32_w]
          rfl
         refine one_ (i := 1) (N := some 16) #[true, true, true, true, true, true, true, true, true, true, true, false, false] rfl rfl (one_of HT_.out (by kernel_rfl)) (by decide) (fun K hK => ?_)
         refine HW.mark_step (w0 := w) w.heap.size ?hw 22 5 (.tmp 15) rfl Try.underlying22 Try.underlying5 (g := gm) (n := 2) (c := 2) (cs := #[Value.int .u8 80, Value.int .u8 72]) rfl BM.out HB.out (below_size HB.out) GM.out ?_; (case hw => rfl)
         intro w29_ hbm hb hg
         have HO129' := Aside0.mk (Kd.R_over' (e' := 5) (v := Value.slice (some ⟨gm, 0, none⟩) 0 0) HO129.out (fun k_ hk_ => by have e_ : gm = k_ := (by simpa [Value.ownBlock] using hk_); subst e_; exact ⟨_, BM.out⟩) (by decide) hg)
         clear HO129
         have HO129 := HO129'
         clear HO129'
         have BM' := Aside0.mk hbm
         have BK' := Aside0.mk (blk_grown BK120.out hg NM.out)
         have HB' := Aside0.mk hb
         clear BK120 HB BM hbm hb hg
         have BM := BM'
         clear BM'
         have BK120 := BK'
         have HB := HB'
         clear BK' HB'
         refine hK.out _ _ ⟨(blk_cell BK120.out 0).trans rfl, (blk_cell BK120.out 1).trans rfl⟩ (fun hHeld => ?_)
         clear hK K
         refine norm_ (a' := ?_) ?_ ?_
         rotate_left
         ·show Act.put _ (some 16) _ = _
          simp only [Act.put, HW.LA, HW.LZ, HW.LS, i64_w, i32_w]
          rfl
         exact norm_ (by simp only [putAll, Act.put, List.setIfInBounds_toArray, List.set_cons_zero, List.set_cons_succ]) (hCont (gm, v128) _ ⟨hHeld, BM.out, HO129.out, BK120.out, HB.out⟩)
      ·skip
       refine goes_ Try.func29 (by kernel_rfl) rfl #[.slice A0_1 l0_1.length c0_1] (by rfl) rfl rfl (by (try simp only [List.map_toArray, List.map_cons, List.map_nil]); first | done | rfl) ?_
       with_reducible refine (crc_Word.calls _ _ l0_1 t126 _ (Kd.C_below HR0_1.out HB.out) HC0_1.out A13.out).mono ?_
       rintro e w210_ ⟨rfl, hb⟩
       refine ⟨_, rfl, ?_⟩
       have BK' := Aside0.mk (blk_below BK120.out hb)
       have HB' := Aside0.mk (below_step HB.out hb)
       clear BK120 HB hb
       have BK120 := BK'
       have HB := HB'
       clear BK' HB'
       refine hK.out _ _ ⟨(blk_cell BK120.out 0).trans rfl, (blk_cell BK120.out 1).trans rfl⟩ (fun hHeld => ?_)
       clear hK K
       refine norm_ (a' := ?_) ?_ ?_
       rotate_left
       ·show Act.put _ (some 24) _ = _
        simp only [Act.put, HW.LA, HW.LZ, HW.LS, i64_w, i32_w]
        rfl
       refine two_ (i := 0) (j := 10) (Ni := some 15) (Nj := some 25) #[true, false, true, true, true, true, true, true, true, true, false, false, false] #[false, false, true, true, true, true, true, true, true, true, true, false, false] rfl rfl rfl rfl (two_of HT_.out (by kernel_rfl)) (by decide) (by decide) (fun K hK => ?_) (fun K hK => ?_)
       ·skip
        refine HW.lit_step (w0 := _) _ ?hw (n := 2) (cs := #[Value.int .u8 80, Value.int .u8 72]) (e := 5) ?hr (Below.refl _ _) (Nat.le_refl _) ?_; (case hw => rfl); (case hr => first | (go_simp; done) | (go_simp; rfl))
        intro gm w211_ hgm hbm hb hg_
        have GM := Aside0.mk (show w.heap.size ≤ gm from by rw [← hgm]; exact below_size HB.out)
        have NM := Aside0.mk (show some gb120 ≠ some gm from fun h_ => by injection h_ with h_; have := blk_lt BK120.out; omega)
        have BM := Aside0.mk hbm
        have BK' := Aside0.mk (blk_below BK120.out hb)
        have HB' := Aside0.mk (below_step HB.out hb)
        clear BK120 HB hgm hbm hb hg_
        have BK120 := BK'
        have HB := HB'
        clear BK' HB'
        refine hK.out _ _ ⟨(blk_cell BK120.out 0).trans rfl, (blk_cell BK120.out 1).trans rfl⟩ (fun hHeld => ?_)
        clear hK K
        refine norm_ (a' := ?_) ?_ ?_
        rotate_left
        ·show Act.put _ (some 15) _ = _
         simp only [Act.put, HW.LA, HW.LZ, HW.LS, i64_w, i32_w]
         rfl
        refine two_ (i := 1) (j := 10) (Ni := some 16) (Nj := some 25) #[true, true, true, true, true, true, true, true, true, true, false, false, false] #[true, false, true, true, true, true, true, true, true, true, true, false, false] rfl rfl rfl rfl (two_of HT_.out (by kernel_rfl)) (by decide) (by decide) (fun K hK => ?_) (fun K hK => ?_)
        ·skip
         refine HW.mark_step (w0 := w) w.heap.size ?hw 22 5 (.tmp 15) rfl Try.underlying22 Try.underlying5 (g := gm) (n := 2) (c := 2) (cs := #[Value.int .u8 80, Value.int .u8 72]) rfl BM.out HB.out (below_size HB.out) GM.out ?_; (case hw => rfl)
         intro w212_ hbm hb hg
         have BM' := Aside0.mk hbm
         have BK' := Aside0.mk (blk_grown BK120.out hg NM.out)
         have HB' := Aside0.mk hb
         clear BK120 HB BM hbm hb hg
         have BM := BM'
         clear BM'
         have BK120 := BK'
         have HB := HB'
         clear BK' HB'
         refine hK.out _ _ ⟨(blk_cell BK120.out 0).trans rfl, (blk_cell BK120.out 1).trans rfl⟩ (fun hHeld => ?_)
         clear hK K
         refine norm_ (a' := ?_) ?_ ?_
         rotate_left
         ·show Act.put _ (some 16) _ = _
          simp only [Act.put, HW.LA, HW.LZ, HW.LS, i64_w, i32_w]
          rfl
         refine one_ (i := 10) (N := some 25) #[true, true, true, true, true, true, true, true, true, true, true, false, false] rfl rfl (one_of HT_.out (by kernel_rfl)) (by decide) (fun K hK => ?_)
         refine Kd.R_lit_step (Kd.int .i64) _ 3 ?hg (N := 25) ?hd (xs := ([a0_0, (l0_1.length : Int), t126] : List Int)) (inner := [.int .i64 a0_0, .int .i64 (l0_1.length : Int), .int .i64 t126]) (ok := fun _ => True) (okp := fun _ => True) ?hr ?hp (fun _ hk => hk) trivial (Below.refl _ _) (Nat.le_refl _) (by simp) ?_; (case hd => rfl); (case hg => rfl); (case hr => first | (go_simp; done) | (go_simp; rfl)); (case hp => exact (Reps.one (show Kd.M (Kd.int .i64) _ _ _ a0_0 [.int .i64 a0_0] from rfl) (Reps.one (show Kd.M (Kd.int .i64) _ _ _ (l0_1.length : Int) [.int .i64 (l0_1.length : Int)] from rfl) (Reps.one (show Kd.M (Kd.int .i64) _ _ _ t126 [.int .i64 t126] from rfl) (Reps.none _ _)))))
         intro v128 w213_ ho23 hb hg_ hnew_
         rw [← Ny127.out] at ho23
         have HO129 := Aside0.mk (Kd.R_lower ho23 (below_size HB.out))
         have BM' := Aside0.mk (blk_below BM.out hb)
         clear BM
         have BM := BM'
         clear BM'
         have BK' := Aside0.mk (blk_below BK120.out hb)
         have HB' := Aside0.mk (below_step HB.out hb)
         clear BK120 HB hb ho23 hg_ hnew_
         have BK120 := BK'
         have HB := HB'
         clear BK' HB'
         refine hK.out _ _ ⟨(blk_cell BK120.out 0).trans rfl, (blk_cell BK120.out 1).trans rfl⟩ (fun hHeld => ?_)
         clear hK K
         refine norm_ (a' := ?_) ?_ ?_
         rotate_left
         ·show Act.put _ (some 25) _ = _
          simp only [Act.put, HW.LA, HW.LZ, HW.LS, i64_w, i32_w]
          rfl
         exact norm_ (by simp only [putAll, Act.put, List.setIfInBounds_toArray, List.set_cons_zero, List.set_cons_succ]) (hCont (gm, v128) _ ⟨hHeld, BM.out, HO129.out, BK120.out, HB.out⟩)
        ·skip
         refine Kd.R_lit_step (Kd.int .i64) _ 3 ?hg (N := 25) ?hd (xs := ([a0_0, (l0_1.length : Int), t126] : List Int)) (inner := [.int .i64 a0_0, .int .i64 (l0_1.length : Int), .int .i64 t126]) (ok := fun _ => True) (okp := fun _ => True) ?hr ?hp (fun _ hk => hk) trivial (Below.refl _ _) (Nat.le_refl _) (by simp) ?_; (case hd => rfl); (case hg => rfl); (case hr => first | (go_simp; done) | (go_simp; rfl)); (case hp => exact (Reps.one (show Kd.M (Kd.int .i64) _ _ _ a0_0 [.int .i64 a0_0] from rfl) (Reps.one (show Kd.M (Kd.int .i64) _ _ _ (l0_1.length : Int) [.int .i64 (l0_1.length : Int)] from rfl) (Reps.one (show Kd.M (Kd.int .i64) _ _ _ t126 [.int .i64 t126] from rfl) (Reps.none _ _)))))
         intro v128 w214_ ho23 hb hg_ hnew_
         rw [← Ny127.out] at ho23
         have HO129 := Aside0.mk (Kd.R_lower ho23 (below_size HB.out))
         have BM' := Aside0.mk (blk_below BM.out hb)
         clear BM
         have BM := BM'
         clear BM'
         have BK' := Aside0.mk (blk_below BK120.out hb)
         have HB' := Aside0.mk (below_step HB.out hb)
         clear BK120 HB hb ho23 hg_ hnew_
         have BK120 := BK'
         have HB := HB'
         clear BK' HB'
         refine hK.out _ _ ⟨(blk_cell BK120.out 0).trans rfl, (blk_cell BK120.out 1).trans rfl⟩ (fun hHeld => ?_)
         clear hK K
         refine norm_ (a' := ?_) ?_ ?_
         rotate_left
         ·show Act.put _ (some 25) _ = _
          simp only [Act.put, HW.LA, HW.LZ, HW.LS, i64_w, i32_w]
          rfl
         refine one_ (i := 1) (N := some 16) #[true, true, true, true, true, true, true, true, true, true, true, false, false] rfl rfl (one_of HT_.out (by kernel_rfl)) (by decide) (fun K hK => ?_)
         refine HW.mark_step (w0 := w) w.heap.size ?hw 22 5 (.tmp 15) rfl Try.underlying22 Try.underlying5 (g := gm) (n := 2) (c := 2) (cs := #[Value.int .u8 80, Value.int .u8 72]) rfl BM.out HB.out (below_size HB.out) GM.out ?_; (case hw => rfl)
         intro w215_ hbm hb hg
         have HO129' := Aside0.mk (Kd.R_over' (e' := 5) (v := Value.slice (some ⟨gm, 0, none⟩) 0 0) HO129.out (fun k_ hk_ => by have e_ : gm = k_ := (by simpa [Value.ownBlock] using hk_); subst e_; exact ⟨_, BM.out⟩) (by decide) hg)
         clear HO129
         have HO129 := HO129'
         clear HO129'
         have BM' := Aside0.mk hbm
         have BK' := Aside0.mk (blk_grown BK120.out hg NM.out)
         have HB' := Aside0.mk hb
         clear BK120 HB BM hbm hb hg
         have BM := BM'
         clear BM'
         have BK120 := BK'
         have HB := HB'
         clear BK' HB'
         refine hK.out _ _ ⟨(blk_cell BK120.out 0).trans rfl, (blk_cell BK120.out 1).trans rfl⟩ (fun hHeld => ?_)
         clear hK K
         refine norm_ (a' := ?_) ?_ ?_
         rotate_left
         ·show Act.put _ (some 16) _ = _
          simp only [Act.put, HW.LA, HW.LZ, HW.LS, i64_w, i32_w]
          rfl
         exact norm_ (by simp only [putAll, Act.put, List.setIfInBounds_toArray, List.set_cons_zero, List.set_cons_succ]) (hCont (gm, v128) _ ⟨hHeld, BM.out, HO129.out, BK120.out, HB.out⟩)
       ·skip
        refine Kd.R_lit_step (Kd.int .i64) _ 3 ?hg (N := 25) ?hd (xs := ([a0_0, (l0_1.length : Int), t126] : List Int)) (inner := [.int .i64 a0_0, .int .i64 (l0_1.length : Int), .int .i64 t126]) (ok := fun _ => True) (okp := fun _ => True) ?hr ?hp (fun _ hk => hk) trivial (Below.refl _ _) (Nat.le_refl _) (by simp) ?_; (case hd => rfl); (case hg => rfl); (case hr => first | (go_simp; done) | (go_simp; rfl)); (case hp => exact (Reps.one (show Kd.M (Kd.int .i64) _ _ _ a0_0 [.int .i64 a0_0] from rfl) (Reps.one (show Kd.M (Kd.int .i64) _ _ _ (l0_1.length : Int) [.int .i64 (l0_1.length : Int)] from rfl) (Reps.one (show Kd.M (Kd.int .i64) _ _ _ t126 [.int .i64 t126] from rfl) (Reps.none _ _)))))
        intro v128 w216_ ho23 hb hg_ hnew_
        rw [← Ny127.out] at ho23
        have HO129 := Aside0.mk (Kd.R_lower ho23 (below_size HB.out))
        have BK' := Aside0.mk (blk_below BK120.out hb)
        have HB' := Aside0.mk (below_step HB.out hb)
        clear BK120 HB hb ho23 hg_ hnew_
        have BK120 := BK'
        have HB := HB'
        clear BK' HB'
        refine hK.out _ _ ⟨(blk_cell BK120.out 0).trans rfl, (blk_cell BK120.out 1).trans rfl⟩ (fun hHeld => ?_)
        clear hK K
        refine norm_ (a' := ?_) ?_ ?_
        rotate_left
        ·show Act.put _ (some 25) _ = _
         simp only [Act.put, HW.LA, HW.LZ, HW.LS, i64_w, i32_w]
         rfl
        refine one_ (i := 0) (N := some 15) #[true, false, true, true, true, true, true, true, true, true, true, false, false] rfl rfl (one_of HT_.out (by kernel_rfl)) (by decide) (fun K hK => ?_)
        refine HW.lit_step (w0 := _) _ ?hw (n := 2) (cs := #[Value.int .u8 80, Value.int .u8 72]) (e := 5) ?hr (Below.refl _ _) (Nat.le_refl _) ?_; (case hw => rfl); (case hr => first | (go_simp; done) | (go_simp; rfl))
        intro gm w217_ hgm hbm hb hg_
        have GM := Aside0.mk (show w.heap.size ≤ gm from by rw [← hgm]; exact below_size HB.out)
        have NM := Aside0.mk (show some gb120 ≠ some gm from fun h_ => by injection h_ with h_; have := blk_lt BK120.out; omega)
        have BM := Aside0.mk hbm
        have HO129' := Aside0.mk (Kd.R_below HO129.out hb)
        clear HO129
        have HO129 := HO129'
        clear HO129'
        have BK' := Aside0.mk (blk_below BK120.out hb)
        have HB' := Aside0.mk (below_step HB.out hb)
        clear BK120 HB hgm hbm hb hg_
        have BK120 := BK'
        have HB := HB'
        clear BK' HB'
        refine hK.out _ _ ⟨(blk_cell BK120.out 0).trans rfl, (blk_cell BK120.out 1).trans rfl⟩ (fun hHeld => ?_)
        clear hK K
        refine norm_ (a' := ?_) ?_ ?_
        rotate_left
        ·show Act.put _ (some 15) _ = _
         simp only [Act.put, HW.LA, HW.LZ, HW.LS, i64_w, i32_w]
         rfl
        refine one_ (i := 1) (N := some 16) #[true, true, true, true, true, true, true, true, true, true, true, false, false] rfl rfl (one_of HT_.out (by kernel_rfl)) (by decide) (fun K hK => ?_)
        refine HW.mark_step (w0 := w) w.heap.size ?hw 22 5 (.tmp 15) rfl Try.underlying22 Try.underlying5 (g := gm) (n := 2) (c := 2) (cs := #[Value.int .u8 80, Value.int .u8 72]) rfl BM.out HB.out (below_size HB.out) GM.out ?_; (case hw => rfl)
        intro w218_ hbm hb hg
        have HO129' := Aside0.mk (Kd.R_over' (e' := 5) (v := Value.slice (some ⟨gm, 0, none⟩) 0 0) HO129.out (fun k_ hk_ => by have e_ : gm = k_ := (by simpa [Value.ownBlock] using hk_); subst e_; exact ⟨_, BM.out⟩) (by decide) hg)
        clear HO129
        have HO129 := HO129'
        clear HO129'
        have BM' := Aside0.mk hbm
        have BK' := Aside0.mk (blk_grown BK120.out hg NM.out)
        have HB' := Aside0.mk hb
        clear BK120 HB BM hbm hb hg
        have BM := BM'
        clear BM'
        have BK120 := BK'
        have HB := HB'
        clear BK' HB'
        refine hK.out _ _ ⟨(blk_cell BK120.out 0).trans rfl, (blk_cell BK120.out 1).trans rfl⟩ (fun hHeld => ?_)
        clear hK K
        refine norm_ (a' := ?_) ?_ ?_
        rotate_left
        ·show Act.put _ (some 16) _ = _
         simp only [Act.put, HW.LA, HW.LZ, HW.LS, i64_w, i32_w]
         rfl
        exact norm_ (by simp only [putAll, Act.put, List.setIfInBounds_toArray, List.set_cons_zero, List.set_cons_succ]) (hCont (gm, v128) _ ⟨hHeld, BM.out, HO129.out, BK120.out, HB.out⟩)
     rintro ⟨gm, v128⟩ w24 ⟨hHeld, h0_, h1_, h2_, h3_⟩
     clear BK120 HB
     have HM := Aside0.mk (HW.C_marked [80, 72] h0_ rfl rfl (by decide))
     have HO129 := Aside0.mk h1_
     have BK120 := Aside0.mk h2_
     have HB := Aside0.mk h3_
     clear h0_ h1_ h2_ h3_
     obtain ⟨Ao26, co26, eo26⟩ := Kd.R_slice HO129.out
     subst eo26
     have A14' := Aside0.mk (show image_lay.f kj2 [80, 72] y127 = some t130 from by have h_ := A14.out; rw [Ny123.out] at h_; exact h_)
     have HP127 := Aside0.mk (show 0 < y127.length from by rw [Ny127.out]; simp)
     refine norm_ (a' := ?_) ?_ ?_
     rotate_left
     ·simp only [putAll, Act.put, List.setIfInBounds_toArray, List.set_cons_zero, List.set_cons_succ]
      rfl
     refine one_ (i := 11) (N := some 26) #[true, true, true, true, true, true, true, true, true, true, true, true, false] rfl rfl (one_of HT_.out (by kernel_rfl)) (by decide) (fun K hK => ?_)
     refine goes_ Try.func28 (by kernel_rfl) rfl #[.slice (some ⟨gm, 0, none⟩) 2 2, .slice Ao26 y127.length co26] (by rfl) rfl rfl (by (try simp only [List.map_toArray, List.map_cons, List.map_nil]); first | done | rfl) ?_
     refine (image_lay_read kj2 ⟨gm, 0, none⟩ [80, 72] _ _ y127 t130 _ HM.out (Kd.R_reads' HO129.out).2.2 (Kd.R_reads' HO129.out).2.1 HP127.out A14'.out).mono ?_
     rintro e w27 ⟨v131, rfl, ho0, hb⟩
     refine ⟨_, rfl, ?_⟩
     have n0_ := Aside0.mk (blk_below BK120.out hb)
     have n1_ := Aside0.mk (Kd.R_below HO129.out hb)
     have n2_ := Aside0.mk (Kd.R_lower ho0 (below_size HB.out))
     have n3_ := Aside0.mk (below_step HB.out hb)
     clear BK120 HO129 HB HM A14' HP127 hb ho0
     have BK120 := n0_
     have HO129 := n1_
     have HO132 := n2_
     have HB := n3_
     clear n0_ n1_ n2_ n3_
     refine hK.out _ _ ⟨(blk_cell BK120.out 0).trans rfl, (blk_cell BK120.out 1).trans rfl⟩ (fun hHeld => ?_)
     clear hK K
     refine norm_ (a' := ?_) ?_ ?_
     rotate_left
     ·show Act.put _ (some 26) _ = _
      simp only [Act.put, HW.LA, HW.LZ, HW.LS, i64_w, i32_w]
      rfl
     refine pure_ (i := 12) (N := some 6) (v := ?_) (a' := ?_) #[true, true, true, true, true, true, true, true, true, true, true, true, true] rfl rfl (any_of HT_.out (by kernel_rfl)) (fun _ _ _ h => h) (Or.inl ⟨by rfl, ?_⟩) ?_ ?_
     rotate_left
     ·intro w'
      go_simp
      with_reducible rfl
     rotate_left
     ·simp only [Act.put, HW.LA, HW.LZ, HW.LS, i64_w, i32_w]
      rfl
     refine done_ (done_of HT_.out (by kernel_rfl)) ?_
     try go_wp2
     have n0_ := Aside0.mk (Kd.R_drew HO129.out)
     have n1_ := Aside0.mk (Kd.R_drew HO132.out)
     have n2_ := Aside0.mk (blk_drew BK120.out)
     have n3_ := Aside0.mk (below_drew1 HB.out)
     clear HO129
     clear HO132
     clear BK120
     clear HB
     have HO129 := n0_
     have HO132 := n1_
     have BK120 := n2_
     have HB := n3_
     clear n0_ n1_ n2_ n3_
     obtain ⟨Ao29, co29, eo29⟩ := Kd.R_slice HO132.out
     (first | subst eo29 | (injection eo29 with f1_ f2_ f3_; have f4_ := f1_.symm; have f5_ := f3_.symm; clear f1_ f2_ f3_; subst f4_; subst f5_))
     refine start_ (n := 13) (S := fun w' => w'.cell? ⟨gb120, 0, none⟩ = some (.int .i64 a0_0) ∧ w'.cell? ⟨gb120, 1, none⟩ = some (.slice A0_1 l0_1.length c0_1)) (ds := []) #[false, false, false, false, false, false, false, false, false, false, false, false, false] (by kernel_rfl) rfl rfl ⟨(blk_cell BK120.out 0).trans rfl, (blk_cell BK120.out 1).trans rfl⟩ (fun hHeld => ?_); refine with_tabW image_Pack.tab4 image_Pack.bits4 (fun HT_ HW_ => ?_)
     generalize w27.drew = w28 at HO129 HO132 BK120 HB hHeld ⊢
     refine pure_ (i := 0) (N := some 27) (v := ?_) (a' := ?_) #[true, false, false, false, false, false, false, false, false, false, false, false, false] rfl rfl (any_of HT_.out (by kernel_rfl)) (fun _ _ _ h => h) (Or.inl ⟨by rfl, ?_⟩) ?_ ?_
     rotate_left
     ·intro w'
      go_simp
      with_reducible rfl
     rotate_left
     ·simp only [Act.put, HW.LA, HW.LZ, HW.LS, i64_w, i32_w]
      rfl
     refine pure_ (i := 1) (N := some 28) (v := ?_) (a' := ?_) #[true, true, false, false, false, false, false, false, false, false, false, false, false] rfl rfl (any_of HT_.out (by kernel_rfl)) (fun _ _ _ h => h) (Or.inl ⟨by rfl, ?_⟩) ?_ ?_
     rotate_left
     ·intro w'
      go_simp
      with_reducible rfl
     rotate_left
     ·simp only [Act.put, HW.LA, HW.LZ, HW.LS, i64_w, i32_w]
      rfl
     refine pure_ (i := 2) (N := some 29) (v := ?_) (a' := ?_) #[true, true, true, false, false, false, false, false, false, false, false, false, false] rfl rfl (any_of HT_.out (by kernel_rfl)) (fun _ _ _ h => h) (Or.inl ⟨by rfl, ?_⟩) ?_ ?_
     rotate_left
     ·intro w'
      go_simp
      with_reducible rfl
     rotate_left
     ·simp only [Act.put, HW.LA, HW.LZ, HW.LS, i64_w, i32_w]
      rfl
     refine pure_ (i := 4) (N := some 31) (v := ?_) (a' := ?_) #[true, true, true, false, true, false, false, false, false, false, false, false, false] rfl rfl (any_of HT_.out (by kernel_rfl)) (fun _ _ _ h => h) (Or.inl ⟨by rfl, ?_⟩) ?_ ?_
     rotate_left
     ·intro w'
      go_simp
      with_reducible rfl
     rotate_left
     ·simp only [Act.put, HW.LA, HW.LZ, HW.LS, i64_w, i32_w]
      rfl
     refine pure_ (i := 8) (N := some 35) (v := ?_) (a' := ?_) #[true, true, true, false, true, false, false, false, true, false, false, false, false] rfl rfl (any_of HT_.out (by kernel_rfl)) (fun _ _ _ h => h) (Or.inl ⟨by rfl, ?_⟩) ?_ ?_
     rotate_left
     ·intro w'
      go_simp
      with_reducible rfl
     rotate_left
     ·simp only [Act.put, HW.LA, HW.LZ, HW.LS, i64_w, i32_w]
      rfl
     refine take_ (i := 3) (N := some 30) (v := ?_) (a' := ?_) #[true, true, true, true, true, false, false, false, true, false, false, false, false] rfl rfl (take_ofW HT_.out HW_.out (by kernel_rfl)) (fun _ _ _ h => h) (Or.inl ⟨by rfl, ?_⟩) hHeld ?_ ?_
     rotate_left
     ·rintro w' ⟨s0, s1⟩
      go_simp
      with_reducible rfl
     rotate_left
     ·simp only [Act.put, HW.LA, HW.LZ, HW.LS, i64_w, i32_w]
      rfl
     refine take_ (i := 9) (N := some 36) (v := ?_) (a' := ?_) #[true, true, true, true, true, false, false, false, true, true, false, false, false] rfl rfl (take_ofW HT_.out HW_.out (by kernel_rfl)) (fun _ _ _ h => h) (Or.inl ⟨by rfl, ?_⟩) hHeld ?_ ?_
     rotate_left
     ·rintro w' ⟨s0, s1⟩
      go_simp
      with_reducible rfl
     rotate_left
     ·simp only [Act.put, HW.LA, HW.LZ, HW.LS, i64_w, i32_w]
      rfl
     refine one_ (i := 5) (N := some 32) #[true, true, true, true, true, true, false, false, true, true, false, false, false] rfl rfl (one_of HT_.out (by kernel_rfl)) (by decide) (fun K hK => ?_)
     refine goes_ Try.func30 (by kernel_rfl) rfl #[.slice Ao29 t130.length co29, .slice A0_1 l0_1.length c0_1, .int .i64 a1] (by rfl) rfl rfl (by (try simp only [List.map_toArray, List.map_cons, List.map_nil]); first | done | rfl | (simp only [List.length_drop, List.length_take]; rfl)) ?_
     with_reducible refine (image_seal.calls kj2 _ _ t130 _ _ l0_1 a1 t133 _ ?side1 ?side2 ?side3 ?side4 A15.out).mono ?_
     (case side1 => repeat (first | exact (Kd.R_reads' HO132.out).2.2 | (with_reducible refine Kd.C_alloc ?_ _) | (with_reducible refine Kd.C_drewN ?_ _) | (with_reducible refine Kd.C_drew ?_)))
     (case side2 => exact (Kd.R_reads' HO132.out).2.1)
     (case side3 => repeat (first | exact (Kd.C_below HR0_1.out HB.out) | (with_reducible refine Kd.C_alloc ?_ _) | (with_reducible refine Kd.C_drewN ?_ _) | (with_reducible refine Kd.C_drew ?_)))
     (case side4 => exact HC0_1.out)
     rintro e w30 ⟨rfl, hb⟩
     refine ⟨_, rfl, ?_⟩
     have n0_ := Aside0.mk (Kd.R_below (by (with_reducible repeat (first | apply Kd.R_alloc | apply Kd.R_drewN | apply Kd.R_drew)); exact HO129.out) hb)
     have n1_ := Aside0.mk (Kd.R_below (by (with_reducible repeat (first | apply Kd.R_alloc | apply Kd.R_drewN | apply Kd.R_drew)); exact HO132.out) hb)
     have n2_ := Aside0.mk (blk_below (g := gb120) (o := .cells #[.int .i64 a0_0, .slice A0_1 l0_1.length c0_1] 24 (0, 0)) (by (with_reducible repeat (first | refine blk_drewN ?_ _ | refine blk_drew ?_ | refine blk_alloc ?_ _)); exact BK120.out) hb)
     have n3_ := Aside0.mk (below_step (by repeat (first | (with_reducible first | exact HB.out | apply below_alloc | apply pw_below_drewN | apply below_drew1 | refine below_set ?_ GE120.out) | exact HB.out)) hb)
     clear HO129
     clear HO132
     clear BK120
     clear HB
     have HO129 := n0_
     have HO132 := n1_
     have BK120 := n2_
     have HB := n3_
     clear n0_ n1_ n2_ n3_
     (try clear hb)
     (try clear hb2)
     (try clear hk)
     (try clear hi)
     refine hK.out _ _ ⟨(blk_cell BK120.out 0).trans rfl, (blk_cell BK120.out 1).trans rfl⟩ (fun hHeld => ?_)
     clear hK K
     refine norm_ (a' := ?_) ?_ ?_
     rotate_left
     ·show Act.put _ (some 32) _ = _
      simp only [Act.put, HW.LA, HW.LZ, HW.LS, i64_w, i32_w]
      rfl
     refine one_ (i := 6) (N := some 33) #[true, true, true, true, true, true, true, false, true, true, false, false, false] rfl rfl (one_of HT_.out (by kernel_rfl)) (by decide) (fun K hK => ?_)
     refine Kd.R_lit_step (Kd.int .i64) _ 3 ?hg (N := 33) ?hd (xs := ([t133] : List Int)) (inner := [.int .i64 t133]) (ok := fun _ => True) (okp := fun _ => True) ?hr ?hp (fun _ hk => hk) trivial (Below.refl _ _) (Nat.le_refl _) (by simp) ?_; (case hd => rfl); (case hg => rfl); (case hr => first | (go_simp; done) | (go_simp; rfl)); (case hp => exact (Reps.one (show Kd.M (Kd.int .i64) _ _ _ t133 [.int .i64 t133] from rfl) (Reps.none _ _)))
     intro v135 w31 ho32 hb hg_ hnew_
     clear hg_ hnew_
     (first | rw [← Ny134.out] at ho32 | (simp only [Int.reduceToNat] at ho32; rw [← Ny134.out] at ho32))
     have n0_ := Aside0.mk (Kd.R_elder' (by (with_reducible repeat (first | apply Kd.R_alloc | apply Kd.R_drewN | apply Kd.R_drew)); exact HO129.out) (Kd.R_base ho32) hb)
     have n1_ := Aside0.mk (Kd.R_below (by (with_reducible repeat (first | apply Kd.R_alloc | apply Kd.R_drewN | apply Kd.R_drew)); exact HO132.out) hb)
     have n2_ := Aside0.mk (Kd.R_lower (Kd.R_new' ho32 (Kd.R_lt (by (with_reducible repeat (first | apply Kd.R_alloc | apply Kd.R_drewN | apply Kd.R_drew)); exact HO129.out))) (below_size (by repeat (first | (with_reducible first | exact HB.out | apply below_alloc | apply pw_below_drewN | apply below_drew1 | refine below_set ?_ GE120.out) | exact HB.out))))
     have n3_ := Aside0.mk (blk_below (g := gb120) (o := .cells #[.int .i64 a0_0, .slice A0_1 l0_1.length c0_1] 24 (0, 0)) (by (with_reducible repeat (first | refine blk_drewN ?_ _ | refine blk_drew ?_ | refine blk_alloc ?_ _)); exact BK120.out) hb)
     have n4_ := Aside0.mk (below_step (by repeat (first | (with_reducible first | exact HB.out | apply below_alloc | apply pw_below_drewN | apply below_drew1 | refine below_set ?_ GE120.out) | exact HB.out)) hb)
     clear HO129
     clear HO132
     clear BK120
     clear HB
     have HO129 := n0_
     have HO132 := n1_
     have HO136 := n2_
     have BK120 := n3_
     have HB := n4_
     clear n0_ n1_ n2_ n3_ n4_
     clear hb ho32
     obtain ⟨Ao33, co33, eo33⟩ := Kd.R_slice HO136.out
     (first | subst eo33 | (injection eo33 with f1_ f2_ f3_; have f4_ := f1_.symm; have f5_ := f3_.symm; clear f1_ f2_ f3_; subst f4_; subst f5_))
     refine hK.out _ _ ⟨(blk_cell BK120.out 0).trans rfl, (blk_cell BK120.out 1).trans rfl⟩ (fun hHeld => ?_)
     clear hK K
     refine norm_ (a' := ?_) ?_ ?_
     rotate_left
     ·show Act.put _ (some 33) _ = _
      simp only [Act.put, HW.LA, HW.LZ, HW.LS, i64_w, i32_w]
      rfl
     refine one_ (i := 7) (N := some 34) #[true, true, true, true, true, true, true, true, true, true, false, false, false] rfl rfl (one_of HT_.out (by kernel_rfl)) (by decide) (fun K hK => ?_)
     refine goes_ Try.func28 (by kernel_rfl) rfl #[.slice Ao29 t130.length co29, .slice Ao33 y134.length co33] (by rfl) rfl rfl (by (try simp only [List.map_toArray, List.map_cons, List.map_nil]); first | done | rfl | (simp only [List.length_drop, List.length_take]; rfl)) ?_
     with_reducible refine (image_lay.calls kj2 (fun k_ => some k_ = (.slice Ao29 t130.length co29 : Value).ownBlock) (.slice Ao29 t130.length co29) t130 _ _ y134 t137 w _ ?side1 ?side2 ?side3 ?side4 A16.out).mono ?_
     (case side1 => repeat (first | (with_reducible first | exact HB.out | apply below_alloc | apply pw_below_drewN | apply below_drew1 | refine below_set ?_ GE120.out) | exact HB.out))
     (case side2 => exact Kd.R_tight rfl HO132.out)
     (case side3 => exact Kd.C_kept_own ((Kd.R_apart' HO136.out (Kd.R_typed HO132.out) (by decide))) (fun k_ hk_ hs_ => (hk_.2) hs_))
     (case side4 => exact (Kd.R_reads' HO136.out).2.1)
     rintro e w34 ⟨v138, rfl, ho0, hb, hkp⟩
     refine ⟨_, rfl, ?_⟩
     have n0_ := Aside0.mk (blk_kept (by (with_reducible repeat (first | refine blk_drewN ?_ _ | refine blk_drew ?_ | refine blk_alloc ?_ _)); exact BK120.out) hkp (fun hs_ => (fun e_ => (Kd.R_ne HO132.out BK120.out (by decide)) e_) hs_))
     have n1_ := Aside0.mk (Kd.R_mono (ok' := fun k_ => some k_ ≠ (.slice Ao33 y134.length co33 : Value).ownBlock) (Kd.R_keptB ((Kd.R_apart' HO129.out (Kd.R_typed HO132.out) (by decide))) hkp (fun k_ hk_ hs_ => (hk_.2) hs_)) (fun k_ hk_ => hk_.1.1.2))
     have n2_ := Aside0.mk (Kd.R_mono (ok' := fun k_ => some k_ ≠ (.slice Ao26 y127.length co26 : Value).ownBlock) (Kd.R_keptB ((Kd.R_apart' HO136.out (Kd.R_typed HO132.out) (by decide))) hkp (fun k_ hk_ hs_ => (hk_.2) hs_)) (fun k_ hk_ => hk_.1.1.2))
     have n3_ := Aside0.mk (Kd.R_mono (ok' := fun k_ => True) ho0 (fun k_ hk_ => trivial))
     have n4_ := Aside0.mk (hb)
     clear BK120
     clear HO129
     clear HO136
     clear HB
     clear HO132
     have BK120 := n0_
     have HO129 := n1_
     have HO136 := n2_
     have HO139 := n3_
     have HB := n4_
     clear n0_ n1_ n2_ n3_ n4_
     (try clear hb)
     (try clear hkp)
     (try clear ho0)
     refine hK.out _ _ ⟨(blk_cell BK120.out 0).trans rfl, (blk_cell BK120.out 1).trans rfl⟩ (fun hHeld => ?_)
     clear hK K
     refine norm_ (a' := ?_) ?_ ?_
     rotate_left
     ·show Act.put _ (some 34) _ = _
      simp only [Act.put, HW.LA, HW.LZ, HW.LS, i64_w, i32_w]
      rfl
     refine one_ (i := 10) (N := some 37) #[true, true, true, true, true, true, true, true, true, true, true, false, false] rfl rfl (one_of HT_.out (by kernel_rfl)) (by decide) (fun K hK => ?_)
     refine Kd.R_append_rows_step (Kd.int .u8) (w0 := w) w.heap.size (by rfl) (.tmp 34) (.tmp 36) 22 5 (.int .u8 0) 1 rfl Try.underlying22 info5 rfl (by decide) (by omega) v138 t137 l0_1 _ _ _ (fun _ => True) (fun _ => False) rfl rfl ?aO ?aR (fun _ _ h => h) (fun _ h => h.elim) ?aF ?aB ?aS ?aL ?_
     (case aR => repeat (first | exact (Kd.C_below HR0_1.out HB.out) | (with_reducible refine Kd.C_alloc ?_ _) | (with_reducible refine Kd.C_drewN ?_ _) | (with_reducible refine Kd.C_drew ?_)))
     (case aB => exact (by repeat (first | (with_reducible first | exact HB.out | apply below_alloc | apply pw_below_drewN | apply below_drew1 | refine below_set ?_ GE120.out) | exact HB.out)))
     (case aF => exact (fun _ _ => trivial))
     (case aO => exact (by (with_reducible repeat (first | apply Kd.R_alloc | apply Kd.R_drewN | apply Kd.R_drew)); exact HO139.out))
     (case aS => exact (below_size (by repeat (first | (with_reducible first | exact HB.out | apply below_alloc | apply pw_below_drewN | apply below_drew1 | refine below_set ?_ GE120.out) | exact HB.out))))
     (case aL => have := LMc17.out; omega)
     intro v141 w35 ho hb hg hat
     rw [← Ny140.out] at ho
     have n0_ := Aside0.mk (blk_grown (g := gb120) (o := .cells #[.int .i64 a0_0, .slice A0_1 l0_1.length c0_1] 24 (0, 0)) (by (with_reducible repeat (first | refine blk_drewN ?_ _ | refine blk_drew ?_ | refine blk_alloc ?_ _)); exact BK120.out) hg (Kd.R_ne HO139.out BK120.out (by decide)))
     have n1_ := Aside0.mk (Kd.R_over' (by (with_reducible repeat (first | apply Kd.R_alloc | apply Kd.R_drewN | apply Kd.R_drew)); exact HO129.out) (Kd.R_typed (by (with_reducible repeat (first | apply Kd.R_alloc | apply Kd.R_drewN | apply Kd.R_drew)); exact HO139.out)) (by decide) hg)
     have n2_ := Aside0.mk (Kd.R_over' (by (with_reducible repeat (first | apply Kd.R_alloc | apply Kd.R_drewN | apply Kd.R_drew)); exact HO136.out) (Kd.R_typed (by (with_reducible repeat (first | apply Kd.R_alloc | apply Kd.R_drewN | apply Kd.R_drew)); exact HO139.out)) (by decide) hg)
     have n3_ := Aside0.mk (hb)
     have n4_ := Aside0.mk (ho)
     clear BK120
     clear HO129
     clear HO136
     clear HB
     clear HO139
     have BK120 := n0_
     have HO129 := n1_
     have HO136 := n2_
     have HB := n3_
     have HO142 := n4_
     clear n0_ n1_ n2_ n3_ n4_
     clear ho hb hg hat
     refine hK.out _ _ ⟨(blk_cell BK120.out 0).trans rfl, (blk_cell BK120.out 1).trans rfl⟩ (fun hHeld => ?_)
     clear hK K
     refine norm_ (a' := ?_) ?_ ?_
     rotate_left
     ·show Act.put _ (some 37) _ = _
      simp only [Act.put, HW.LA, HW.LZ, HW.LS, i64_w, i32_w]
      rfl
     refine pure_ (i := 11) (N := some 4) (v := ?_) (a' := ?_) #[true, true, true, true, true, true, true, true, true, true, true, true, false] rfl rfl (any_of HT_.out (by kernel_rfl)) (fun _ _ _ h => h) (Or.inl ⟨by rfl, ?_⟩) ?_ ?_
     rotate_left
     ·intro w'
      go_simp
      with_reducible rfl
     rotate_left
     ·simp only [Act.put, HW.LA, HW.LZ, HW.LS, i64_w, i32_w]
      rfl
     refine pure_ (i := 12) (N := some 5) (v := ?_) (a' := ?_) #[true, true, true, true, true, true, true, true, true, true, true, true, true] rfl rfl (any_of HT_.out (by kernel_rfl)) (fun _ _ _ h => h) (Or.inl ⟨by rfl, ?_⟩) ?_ ?_
     rotate_left
     ·intro w'
      go_simp
      with_reducible rfl
     rotate_left
     ·simp only [Act.put, HW.LA, HW.LZ, HW.LS, i64_w, i32_w]
      rfl
     refine done_ (done_of HT_.out (by kernel_rfl)) ?_
     try go_wp2
     go_ret2
     exact ⟨_, by first | rfl | (simp [errW_none, errW_some] <;> rfl) | (simp [*, errW_none, errW_some] <;> rfl), by (with_reducible repeat (first | apply Kd.R_alloc | apply Kd.R_drewN | apply Kd.R_drew)); exact HO142.out, by repeat (first | (with_reducible first | exact HB.out | apply below_alloc | apply pw_below_drewN | apply below_drew1 | refine below_set ?_ GE120.out) | exact HB.out)⟩
    ·rw [if_neg c17] at H
     exact absurd H (by simp)

end Go.Proofs.Ytfgbcpdlhdgofaa.Px
